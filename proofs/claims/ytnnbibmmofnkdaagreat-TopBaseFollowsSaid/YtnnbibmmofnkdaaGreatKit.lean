/-
 The kit's laws for this seat.
-/
import Derived.Below
import Derived.RangeFuncOwn
import Derived.Laws.OwnMore
import Derived.Deep.AppendLies
import Derived.Deep.Draws
import Derived.Maps.AppendAt
import Derived.RegionTactic
import Derived.OwnWalk
import Derived.Lib.Hide
import Derived.Laws.Slices
import Derived.Maps.RangeRun
import Derived.MapKept
import Derived.Deep.MidRow
import Derived.OrdersHeld
import Derived.Deep.RegionHeld3
import Derived.Tactics
import Derived.RangeFuncNested
import Derived.RangeFuncBound
import Derived.RangeFuncLeaves
import Derived.RangeFuncBox
import Derived.OrdersIn
import Derived.RangeFuncCalls
import Derived.ControlIn
theorem uzT {α : Type _} {l : List α} {i : Nat} {a : α} : l.toArray.setIfInBounds i a = (l.set i a).toArray := List.setIfInBounds_toArray ..
theorem uz0 {α : Type _} {a : α} {as : List α} {b : α} : (a :: as).set 0 b = b :: as := rfl
theorem uz1 {α : Type _} {a : α} {as : List α} {n : Nat} {b : α} : (a :: as).set (n + 1) b = a :: as.set n b := rfl
theorem ugT {α : Type _} {l : List α} {i : Nat} : l.toArray[i]? = l[i]? := List.getElem?_toArray ..
theorem ug0 {α : Type _} {a : α} {l : List α} : (a :: l)[0]? = some a := rfl
theorem ug1 {α : Type _} {a : α} {l : List α} {i : Nat} : (a :: l)[i + 1]? = l[i]? := rfl
namespace WageMem
open Go Go.RowKit
/-- Nothing that lay in memory has changed. -/
def Grew (w w' : World) : Prop := Below w.heap.size w w'
theorem Grew.refl (w : World) : Grew w w := Below.refl _ _
theorem Grew.trans {a b c : World} (h : Grew a b) (k : Grew b c) : Grew a c := Below.trans h (Below.mono k (Below.size h))
theorem Grew.cell {w w' : World} (h : Grew w w') {p : Addr} {v : Value} (hc : w.cell? p = some v) : w'.cell? p = some v := by
 obtain ⟨o, ho, _⟩ := cells_of_cell hc
 exact (Below.cell h (Array.getElem?_eq_some_iff.1 ho).1).trans hc
theorem Grew.drewN {w w' : World} (h : Grew w w') (n : Nat) : Grew w (w'.drewN n) := ⟨h.os, h.tape, h.output, h.size, h.block⟩
theorem Grew.drew {w w' : World} (h : Grew w w') : Grew w w'.drew := ⟨h.os, h.tape, h.output, h.size, h.block⟩
theorem Grew.alloc {w w' : World} (h : Grew w w') (o : Obj) : Grew w (w'.alloc o) := Below.alloc h (Below.size h) o
theorem Grew.set {w w' : World} (h : Grew w w') {p : Addr} (hp : w.heap.size ≤ p.block) (u : Value) : Grew w (w'.setCell p u) := Below.setCell h hp u
theorem Grew.below {w w' : World} (h : Grew w w') : Below w.heap.size w w' := h
theorem Grew.grown {w w' w'' : World} {row : Option Nat} (h : Grew w w') (hg : w'.grownBy w'' row) (hr : ∀ k, row = some k → w.heap.size ≤ k) : Grew w w'' := Below.grown h hg (Below.size h) hr
theorem Grew.block {w w' : World} (h : Grew w w') {g : Nat} {o : Obj} (hb : w.heap[g]? = some o) : w'.heap[g]? = some o :=
 (Below.block h g (Array.getElem?_eq_some_iff.1 hb).1).trans hb
theorem Grew.le {w w' : World} (h : Grew w w') : w.heap.size ≤ w'.heap.size := Below.size h
/-- The cells xs lie in a row from the address A on. -/
def Cells (w : World) (A : Option Addr) (xs : List Value) : Prop :=
 xs ≠ [] → ∃ b o, A = some ⟨b, o, none⟩ ∧ ∀ j u, xs[j]? = some u → w.cell? ⟨b, o + j, none⟩ = some u
theorem Cells.grew {w w' : World} {A : Option Addr} {xs : List Value} (h : Cells w A xs) (g : Grew w w') : Cells w' A xs := fun hx => by
 obtain ⟨b, o, e, hc⟩ := h hx
 exact ⟨b, o, e, fun j u hu => g.cell (hc j u hu)⟩
theorem Cells.nil {w : World} {A : Option Addr} : Cells w A [] := fun h => absurd rfl h
/-- A slice value with n elements, whose cells are xs. -/
def Sl (w : World) (size : Nat) (A : Option Addr) (n c : Nat) (xs : List Value) : Prop :=
 n ≤ c ∧ c ≤ maxLen ∧ xs.length = n * size ∧ Cells w A xs ∧ (A = none → n = 0 ∧ c = 0)
theorem Sl.grew {w w' : World} {size : Nat} {A : Option Addr} {n c : Nat} {xs : List Value} (h : Sl w size A n c xs) (g : Grew w w') : Sl w' size A n c xs :=
 ⟨h.1, h.2.1, h.2.2.1, h.2.2.2.1.grew g, h.2.2.2.2⟩
def bv (u : UInt8) : Value := .int .u8 (u.toNat : Int)
def iv (z : Int) : Value := .int .i64 z
theorem iv_one (zs : List Int) : ∀ u ∈ zs.map iv, u.oneCell' = true := by
 intro u hu
 obtain ⟨x, _, rfl⟩ := List.mem_map.1 hu
 rfl
/-- A slice of bytes. -/
def Bytes (w : World) (A : Option Addr) (n c : Nat) (bs : List UInt8) : Prop := bs.length = n ∧ Sl w 1 A n c (bs.map bv)
theorem Bytes.grew {w w' : World} {A : Option Addr} {n c : Nat} {bs : List UInt8} (h : Bytes w A n c bs) (g : Grew w w') : Bytes w' A n c bs := ⟨h.1, h.2.grew g⟩
theorem Bytes.at_ {w : World} {A : Option Addr} {n c : Nat} {bs : List UInt8} (h : Bytes w A n c bs) (hn : 0 < n) :
  ∃ b o, A = some ⟨b, o, none⟩ ∧ ∀ (j : Nat) (u : UInt8), bs[j]? = some u → w.cell? ⟨b, o + j, none⟩ = some (.int .u8 (u.toNat : Int)) := by
 have hne : bs.map bv ≠ [] := by
  intro e
  have := h.1
  have e' : (bs.map bv).length = 0 := by rw [e]; rfl
  rw [List.length_map] at e'
  omega
 obtain ⟨b, o, e, hc⟩ := h.2.2.2.2.1 hne
 exact ⟨b, o, e, fun j u hu => hc j _ (by rw [List.getElem?_map, hu]; rfl)⟩
/-- A slice of integers. -/
def Ints (w : World) (A : Option Addr) (n c : Nat) (zs : List Int) : Prop := zs.length = n ∧ Sl w 1 A n c (zs.map iv)
theorem Ints.grew {w w' : World} {A : Option Addr} {n c : Nat} {zs : List Int} (h : Ints w A n c zs) (g : Grew w w') : Ints w' A n c zs := ⟨h.1, h.2.grew g⟩
theorem Ints.at_ {w : World} {A : Option Addr} {n c : Nat} {zs : List Int} (h : Ints w A n c zs) (hn : 0 < n) :
  ∃ b o, A = some ⟨b, o, none⟩ ∧ ∀ (j : Nat) (u : Int), zs[j]? = some u → w.cell? ⟨b, o + j, none⟩ = some (.int .i64 u) := by
 have hne : zs.map iv ≠ [] := by
  intro e
  have := h.1
  have e' : (zs.map iv).length = 0 := by rw [e]; rfl
  rw [List.length_map] at e'
  omega
 obtain ⟨b, o, e, hc⟩ := h.2.2.2.2.1 hne
 exact ⟨b, o, e, fun j u hu => hc j _ (by rw [List.getElem?_map, hu]; rfl)⟩
/-- What the call owns reads as a slice. -/
theorem Sl.own {w : World} {base : Nat} {e : TypeId} {size : Nat} {A : Option Addr} {n c : Nat} {xs : List Value} (h : w.ownsRow base e size (.slice A n c) n xs) : Sl w size A n c xs := by
 obtain ⟨hl, h2⟩ := h
 rcases h2 with ⟨hv, hn⟩ | ⟨g, cap, cur, hv, hb, hg, hnc, hcm, hcs, ht⟩
 ·injection hv with e1 e2 e3
  subst e1 e2 e3
  have hx : xs = [] := List.eq_nil_of_length_eq_zero (by simpa using hl)
  subst hx
  exact ⟨Nat.le_refl _, Nat.zero_le _, by simp, Cells.nil, fun _ => ⟨rfl, rfl⟩⟩
 ·injection hv with e1 e2 e3
  subst e1 e3
  refine ⟨hnc, hcm, hl, fun _ => ⟨g, 0, rfl, fun j u hu => ?_⟩, fun h => by cases h⟩
  rw [cell_of_row w g (0 + j) cur e (0, 0) hg, Nat.zero_add]
  rw [← ht, List.getElem?_take] at hu
  split at hu
  ·simpa using hu
  ·cases hu
theorem Bytes.own {w : World} {base : Nat} {e : TypeId} {A : Option Addr} {n c : Nat} {bs : List UInt8} (hn : bs.length = n) (h : w.ownsRow base e 1 (.slice A n c) n (bs.map bv)) : Bytes w A n c bs := ⟨hn, Sl.own h⟩
theorem Ints.own {w : World} {base : Nat} {e : TypeId} {A : Option Addr} {n c : Nat} {bs : List Int} (hn : bs.length = n) (h : w.ownsRow base e 1 (.slice A n c) n (bs.map iv)) : Ints w A n c bs := ⟨hn, Sl.own h⟩
/-- An owned slice's form. -/
theorem own_form {w : World} {base : Nat} {e : TypeId} {size : Nat} {v : Value} {n : Nat} {xs : List Value} (h : w.ownsRow base e size v n xs) : ∃ A c, v = .slice A n c := by
 rcases h.2 with ⟨rfl, rfl⟩ | ⟨g, cap, cur, rfl, _⟩
 ·exact ⟨_, _, rfl⟩
 ·exact ⟨_, _, rfl⟩
section
variable {P : Program} (w : World)
theorem run_append_of_nil (base : Nat) (t ty e : TypeId) (i : TypeInfo) (size : Nat) (ht : P.underlying t = some (.slice e)) (hi : P.info? e = some i)
  (v : Value) (n : Nat) (xs : List Value) (hown : w.ownsRow base e size v n xs) (c : Nat) : (Builtin.append_ #[t, t] ty #[v, .slice none 0 c]).run P w = .ok v w := by
 rcases hown.2 with ⟨rfl, rfl⟩ | ⟨g, cap, cur, rfl, _, _, hnc, _⟩
 ·simp [Builtin.append_, run_underlying ht, Go.sizeOf, typeInfo, hi, Builtin.lenOf, Builtin.firstCells]
 ·simp [Builtin.append_, run_underlying ht, Go.sizeOf, typeInfo, hi, Builtin.lenOf, Builtin.firstCells, hnc, storeCells]
/-- append onto a row that the call owns, from a slice that reads as xs: nil, empty or not. -/
theorem run_append_sl (base : Nat) (t ty e : TypeId) (i : TypeInfo) (z : Value) (size bytes : Nat) (ht : P.underlying t = some (.slice e)) (hi : P.info? e = some i) (hz : i.zero = some z)
  (hsize : i.size = size) (hby : i.bytes = bytes) (hzs : z.cells.size = size) (hsz : 0 < size)
  (v : Value) (n : Nat) (xs : List Value) (hown : w.ownsRow base e size v n xs)
  (A : Option Addr) (m c : Nat) (news : List Value) (hr : Sl w size A m c news) (h1 : ∀ u ∈ news, u.oneCell' = true)
  (h63 : n + m ≤ maxLen) (hbytes : (n + m) * bytes ≤ 140737488355328) (hbase : base ≤ w.heap.size) :
  ∃ v' w', (Builtin.append_ #[t, t] ty #[v, .slice A m c]).run P w = .ok v' w' ∧ w'.ownsRow base e size v' (n + m) (xs ++ news) ∧ w.grownBy w' v.ownBlock ∧
   (v'.ownBlock = v.ownBlock ∨ v'.ownBlock = some w.heap.size) := by
 rcases A with _ | ad
 ·obtain ⟨rfl, rfl⟩ := hr.2.2.2.2 rfl
  have hn : news = [] := List.eq_nil_of_length_eq_zero (by simpa using hr.2.2.1)
  subst hn
  exact ⟨v, w, run_append_of_nil w base t ty e i size ht hi v n xs hown 0, by simpa using hown, World.grownBy.refl w _, .inl rfl⟩
 ·have hcells : ∀ j u, news[j]? = some u → w.cell? (ad.add j) = some u := by
   intro j u hu
   have hne : news ≠ [] := by intro h; rw [h] at hu; simp at hu
   obtain ⟨b, o, h, hc⟩ := hr.2.2.2.1 hne
   injection h with h
   subst h
   have := hc j u hu
   unfold Addr.add
   split
   ·rename_i h0; subst h0; simpa using this
   ·exact this
  obtain ⟨v', w', hrun, h2, h3, _, h5⟩ := run_append_own_at (P := P) w base t ty e i z size bytes ht hi hz hsize hby hzs hsz v n xs hown ad m c news hr.2.2.1 hcells h1 h63 hbytes hbase
  exact ⟨v', w', hrun, h2, h3, h5⟩
theorem wp_append_sl {o : Oper} {a : Act} {K : Act → World → Prop} {Q : Exit → Act → World → Prop} (s x : Operand) (t : TypeId)
  (ho : o.op = .call { callee := .builtin .append, args := #[s, x], argTypes := #[t, t] })
  (base : Nat) (e : TypeId) (i : TypeInfo) (z : Value) (size bytes : Nat) (ht : P.underlying t = some (.slice e)) (hi : P.info? e = some i) (hz : i.zero = some z)
  (hsize : i.size = size) (hby : i.bytes = bytes) (hzs : z.cells.size = size) (hsz : 0 < size)
  (v : Value) (n : Nat) (xs : List Value) (hs : a.eval s = v) (hown : w.ownsRow base e size v n xs)
  (A : Option Addr) (m c : Nat) (news : List Value) (hx : a.eval x = .slice A m c) (hr : Sl w size A m c news) (h1 : ∀ u ∈ news, u.oneCell' = true)
  (h63 : n + m ≤ maxLen) (hbytes : (n + m) * bytes ≤ 140737488355328) (hbase : base ≤ w.heap.size)
  (h : ∀ v' w', w'.ownsRow base e size v' (n + m) (xs ++ news) → w.grownBy w' v.ownBlock → (v'.ownBlock = v.ownBlock ∨ v'.ownBlock = some w.heap.size) → K (a.put o.dst v') w') : o.wp P a w K Q := by
 obtain ⟨v', w', hrun, h2, h3, h4⟩ := run_append_sl (P := P) w base t o.type e i z size bytes ht hi hz hsize hby hzs hsz v n xs hown A m c news hr h1 h63 hbytes hbase
 unfold Oper.wp execOp
 simp only [ho, resolve, invoke, builtin, Sem.run_bind, Sem.run_pure, Result.andThen_ok, List.map_toArray, List.map_cons, List.map_nil, hs, hx, hrun]
 exact h v' w' h2 h3 h4
theorem wpList_append_sl {ops : Array Oper} {rest : List Oper} {o : Oper} {a : Act} {Q : Exit → Act → World → Prop} (hgd : o.guard = none) (s x : Operand) (t : TypeId)
  (ho : o.op = .call { callee := .builtin .append, args := #[s, x], argTypes := #[t, t] })
  (base : Nat) (e : TypeId) (i : TypeInfo) (z : Value) (size bytes : Nat) (ht : P.underlying t = some (.slice e)) (hi : P.info? e = some i) (hz : i.zero = some z)
  (hsize : i.size = size) (hby : i.bytes = bytes) (hzs : z.cells.size = size) (hsz : 0 < size)
  (v : Value) (n : Nat) (xs : List Value) (hs : a.eval s = v) (hown : w.ownsRow base e size v n xs)
  (A : Option Addr) (m c : Nat) (news : List Value) (hx : a.eval x = .slice A m c) (hr : Sl w size A m c news) (h1 : ∀ u ∈ news, u.oneCell' = true)
  (h63 : n + m ≤ maxLen) (hbytes : (n + m) * bytes ≤ 140737488355328) (hbase : base ≤ w.heap.size)
  (h : ∀ v' w', w'.ownsRow base e size v' (n + m) (xs ++ news) → w.grownBy w' v.ownBlock → (v'.ownBlock = v.ownBlock ∨ v'.ownBlock = some w.heap.size) → wpList P ops Q rest (a.put o.dst v') w') : wpList P ops Q (o :: rest) a w :=
 wpList_plain hgd fun _ hK => wp_append_sl w s x t ho base e i z size bytes ht hi hz hsize hby hzs hsz v n xs hs hown A m c news hx hr h1 h63 hbytes hbase fun v' w' h2 h3 h4 => hK _ _ (h v' w' h2 h3 h4)
end
end WageMem
namespace WageMem
open Go Go.RowKit
/-- Where the tail of a slice lies. -/
def tailA (A : Option Addr) (c q size : Nat) : Option Addr := if c = q then A else A.map (·.add (q * size))
theorem addr_add_plain (b o i : Nat) : (⟨b, o, none⟩ : Addr).add i = ⟨b, o + i, none⟩ := by
 unfold Addr.add
 split
 ·rename_i h; subst h; rfl
 ·rfl
theorem Sl.tail {w : World} {size : Nat} {A : Option Addr} {n c : Nat} {xs : List Value} (h : Sl w size A n c xs) {q : Nat} (hq : q ≤ n) : Sl w size (tailA A c q size) (n - q) (c - q) (xs.drop (q * size)) := by
 obtain ⟨h1, h2, h3, h4, h5⟩ := h
 refine ⟨by omega, by omega, by rw [List.length_drop, h3, Nat.sub_mul], ?_, ?_⟩
 ·intro hne
  have hne' : xs ≠ [] := by rintro rfl; simp at hne
  obtain ⟨b, o, rfl, hc⟩ := h4 hne'
  have hlt : q * size < xs.length := by
   apply Classical.byContradiction
   intro hh
   exact hne (List.drop_eq_nil_of_le (by omega))
  have hqn : q < n := by rw [h3] at hlt; exact Nat.lt_of_mul_lt_mul_right hlt
  refine ⟨b, o + q * size, ?_, fun j u hu => ?_⟩
  ·unfold tailA
   rw [if_neg (by omega)]
   simp [addr_add_plain]
  ·rw [List.getElem?_drop] at hu
   have := hc _ u hu
   rw [Nat.add_assoc]; exact this
 ·intro hA
  unfold tailA at hA
  split at hA
  ·obtain ⟨h6, h7⟩ := h5 hA; omega
  ·cases A with
   | none => obtain ⟨h6, h7⟩ := h5 rfl; omega
   | some a => simp at hA
theorem Sl.head {w : World} {size : Nat} {A : Option Addr} {n c : Nat} {xs : List Value} (h : Sl w size A n c xs) {q k : Nat} (hq : q ≤ n) (hk : q ≤ k) (hkc : k ≤ c) : Sl w size A q k (xs.take (q * size)) := by
 obtain ⟨h1, h2, h3, h4, h5⟩ := h
 refine ⟨hk, by omega, by rw [List.length_take, h3]; exact Nat.min_eq_left (Nat.mul_le_mul_right _ hq), ?_, fun hA => ?_⟩
 ·intro hne
  have hne' : xs ≠ [] := by rintro rfl; simp at hne
  obtain ⟨b, o, rfl, hc⟩ := h4 hne'
  refine ⟨b, o, rfl, fun j u hu => hc j u ?_⟩
  rw [List.getElem?_take] at hu
  split at hu
  ·exact hu
  ·cases hu
 ·obtain ⟨h6, h7⟩ := h5 hA; omega
section
variable {P : Program} (w : World)
theorem run_slice_tail (t : TypeId) (size : Nat) (ht : P.underlying t = some (.slice (P.elem t))) (hi : (Go.sizeOf (P.elem t)).run P w = .ok size w) (A : Option Addr) (n c q : Nat) (k : IntKind) (hq : q ≤ n) :
  (Instr.slice t (.slice A n c) (some (.int k q)) none none).run P w = .ok (.slice (tailA A c q size) (n - q) (c - q)) w := by
 rw [run_slice_l w t A n c ht k q (by omega) (by omega), hi]
 simp [sliced, tailA]
theorem run_slice_head (t : TypeId) (size : Nat) (ht : P.underlying t = some (.slice (P.elem t))) (hi : (Go.sizeOf (P.elem t)).run P w = .ok size w) (A : Option Addr) (n c q : Nat) (k : IntKind) (hq : q ≤ c) :
  (Instr.slice t (.slice A n c) none (some (.int k q)) none).run P w = .ok (.slice A q c) w := by
 rw [run_slice_h w t A n c ht k q (by omega) (by omega), hi]
 cases A with
 | none => simp [sliced]
 | some a => simp [sliced, Addr.add]
end
end WageMem
namespace WageMap
open Go Go.RowKit WageMem
open Go.ChangeMaps (setBlock)
section plain
variable {κ β : Type} [DecidableEq κ]
/-- What lies under a key. -/
def alFind (a : κ) : List (κ × β) → Option β
 | [] => none
 | p :: m => if a = p.1 then some p.2 else alFind a m
/-- A value is laid under a key: in its place, or behind all. -/
def alPut (a : κ) (v : β) : List (κ × β) → List (κ × β)
 | [] => [(a, v)]
 | p :: m => if a = p.1 then (a, v) :: m else p :: alPut a v m
theorem alFind_put_self (a : κ) (v : β) : ∀ m, alFind a (alPut a v m) = some v
 | [] => by simp [alPut, alFind]
 | p :: m => by
  unfold alPut
  split
  ·simp [alFind]
  ·rename_i h; simp only [alFind, if_neg h]; exact alFind_put_self a v m
theorem alFind_put_ne {a b : κ} (v : β) (h : b ≠ a) : ∀ m, alFind b (alPut a v m) = alFind b m
 | [] => by simp [alPut, alFind, h]
 | p :: m => by
  unfold alPut
  split
  ·rename_i h1; subst h1; simp [alFind, h]
  ·simp only [alFind]; split
   ·rfl
   ·exact alFind_put_ne v h m
theorem alPut_mem {a : κ} {v : β} {q : κ × β} : ∀ {m : List (κ × β)}, q ∈ alPut a v m → q = (a, v) ∨ q ∈ m
 | [], h => by simp [alPut] at h; exact .inl h
 | p :: m, h => by
  unfold alPut at h
  split at h
  ·rcases List.mem_cons.1 h with h | h
   ·exact .inl h
   ·exact .inr (List.mem_cons_of_mem _ h)
  ·rcases List.mem_cons.1 h with h | h
   ·exact .inr (h ▸ List.mem_cons_self)
   ·rcases alPut_mem h with h | h
    ·exact .inl h
    ·exact .inr (List.mem_cons_of_mem _ h)
def Keys (m : List (κ × β)) : Prop := (m.map Prod.fst).Nodup
theorem alPut_keys (a : κ) (v : β) : ∀ m : List (κ × β), (alPut a v m).map Prod.fst = if a ∈ m.map Prod.fst then m.map Prod.fst else m.map Prod.fst ++ [a]
 | [] => by simp [alPut]
 | p :: m => by
  unfold alPut
  by_cases h : a = p.1
  ·rw [if_pos h]; simp [h]
  ·rw [if_neg h]
   simp only [List.map_cons, alPut_keys a v m, List.mem_cons, h, false_or]
   split <;> rfl
theorem Keys.put {m : List (κ × β)} (h : Keys m) (a : κ) (v : β) : Keys (alPut a v m) := by
 unfold Keys at *
 rw [alPut_keys]
 split
 ·exact h
 ·rename_i hn
  rw [List.nodup_append]
  exact ⟨h, by simp, fun x hx y hy => by simp at hy; subst hy; intro e; subst e; exact hn hx⟩
omit [DecidableEq κ] in
theorem Keys.nil : Keys ([] : List (κ × β)) := List.nodup_nil
theorem mem_alFind {a : κ} {v : β} : ∀ {m : List (κ × β)}, Keys m → (a, v) ∈ m → alFind a m = some v
 | p :: m, hk, h => by
  unfold Keys at hk
  simp only [List.map_cons, List.nodup_cons] at hk
  rcases List.mem_cons.1 h with rfl | h
  ·simp [alFind]
  ·have hne : a ≠ p.1 := fun e => hk.1 (e ▸ List.mem_map.2 ⟨_, h, rfl⟩)
   simp only [alFind, if_neg hne]
   exact mem_alFind hk.2 h
theorem alFind_none {a : κ} : ∀ {m : List (κ × β)}, alFind a m = none ↔ a ∉ m.map Prod.fst
 | [] => by simp [alFind]
 | p :: m => by
  unfold alFind
  by_cases h : a = p.1
  ·simp [h]
  ·simp [h, alFind_none (m := m)]
theorem alPut_length (a : κ) (v : β) : ∀ m : List (κ × β), (alPut a v m).length ≤ m.length + 1
 | [] => by simp [alPut]
 | p :: m => by
  unfold alPut
  split
  ·simp
  ·have := alPut_length a v m; simp; omega
/-- The place of a key. -/
def alIdx (a : κ) : List κ → Nat → Option Nat
 | [], _ => none
 | k :: ks, i => if a = k then some i else alIdx a ks (i + 1)
theorem alIdx_shift (a : κ) : ∀ (ks : List κ) (i : Nat), alIdx a ks (i + 1) = (alIdx a ks i).map (· + 1)
 | [], _ => rfl
 | k :: ks, i => by
  unfold alIdx
  split
  ·rfl
  ·exact alIdx_shift a ks (i + 1)
theorem alIdx_spec (a : κ) : ∀ (m : List (κ × β)), (alIdx a (m.map Prod.fst) 0 = none ∧ alFind a m = none ∧ (∀ v, alPut a v m = m ++ [(a, v)])) ∨
  ∃ i v0, alIdx a (m.map Prod.fst) 0 = some i ∧ m[i]? = some (a, v0) ∧ alFind a m = some v0 ∧ ∀ v, alPut a v m = m.set i (a, v)
 | [] => .inl ⟨rfl, rfl, fun _ => rfl⟩
 | p :: m => by
  by_cases h : a = p.1
  ·refine .inr ⟨0, p.2, by simp [alIdx, h], by simp [h], by simp [alFind, h], fun v => by simp [alPut, h]⟩
  ·rcases alIdx_spec a m with ⟨h1, h2, h3⟩ | ⟨i, v0, h1, h2, h3, h4⟩
   ·refine .inl ⟨?_, by simp [alFind, h, h2], fun v => by simp [alPut, h, h3]⟩
    simp only [List.map_cons, alIdx, if_neg h, Nat.zero_add]
    rw [show (1 : Nat) = 0 + 1 from rfl, alIdx_shift, h1]; rfl
   ·refine .inr ⟨i + 1, v0, ?_, by simpa using h2, by simp [alFind, h, h3], fun v => by simp [alPut, h, h4]⟩
    simp only [List.map_cons, alIdx, if_neg h, Nat.zero_add]
    rw [show (1 : Nat) = 0 + 1 from rfl, alIdx_shift, h1]; rfl
end plain
section
variable {κ β : Type} [DecidableEq κ] {P : Program} {w : World}
/-- How the keys of a map are found. -/
structure KeyOk (P : Program) (kt : TypeId) (ek : κ → Value) : Prop where
 check : ∀ (e : Bool) (a : κ) (w : World), (Instr.checkKey e 10000 kt (ek a)).run P w = .ok () w
 find : ∀ (a : κ) (ks : List κ) (l : List MapEntry) (w : World), l.map (·.key) = ks.map ek →
  (Instr.findKey kt (ek a) l).run P w = .ok ((alIdx a ks 0).map fun i => (i, ((l[i]?).map (·.val)).getD undef)) w
 bits : ∀ a : κ, Instr.sameBits 10000 (ek a) (ek a) = true
theorem findNow_ok {d : TypeDesc} {ek : κ → Value} (hs : ∀ a b, Instr.sameNow d (ek a) (ek b) = some (decide (a = b))) (a : κ) :
  ∀ (ks : List κ) (l : List MapEntry) (i : Nat), l.map (·.key) = ks.map ek → Instr.findNow d (ek a) l i = some ((alIdx a ks 0).map fun j => (j + i, ((l[j]?).map (·.val)).getD undef))
 | [], l, i, h => by
  have : l = [] := by simpa using h
  subst this; rfl
 | k :: ks, [], i, h => by simp at h
 | k :: ks, x :: l, i, h => by
  simp only [List.map_cons, List.cons.injEq] at h
  obtain ⟨h1, h2⟩ := h
  unfold Instr.findNow
  rw [h1, hs]
  by_cases hk : a = k
  ·subst hk; simp [alIdx]
  ·simp only [hk, decide_false, alIdx, if_false, Nat.zero_add]
   rw [findNow_ok hs a ks l (i + 1) h2, show (1 : Nat) = 0 + 1 from rfl, alIdx_shift, Option.map_map]
   congr 1
   congr 1
   funext j
   simp [Nat.add_comm, Nat.add_left_comm]
theorem KeyOk.now {kt : TypeId} {d : TypeDesc} {ek : κ → Value} (hd : P.underlying kt = some d) (hs : ∀ a b, Instr.sameNow d (ek a) (ek b) = some (decide (a = b)))
  (hc : ∀ (e : Bool) (a : κ) (w : World), (Instr.checkKey e 10000 kt (ek a)).run P w = .ok () w) (hb : ∀ a : κ, Instr.sameBits 10000 (ek a) (ek a) = true) : KeyOk P kt ek where
 check := hc
 bits := hb
 find := fun a ks l w h => by
  unfold Instr.findKey
  simp only [Sem.run_bind, run_underlying hd, Result.andThen, findNow_ok hs a ks l 0 h, Nat.add_zero]
  rfl
theorem int_key {kt : TypeId} (h : P.underlying kt = some (.int .i64)) : KeyOk P kt (fun n : Int => Value.int .i64 n) := by
 refine KeyOk.now h (fun a b => ?_) (fun e a w => ?_) (fun a => ?_)
 ·simp only [Instr.sameNow, if_true, Option.some.injEq]
  rw [Bool.eq_iff_iff, beq_iff_eq, decide_eq_true_iff]
 ·unfold Instr.checkKey
  simp only [Sem.run_bind, run_underlying h, Result.andThen]
  rfl
 ·simp [Instr.sameBits]
end
section
variable {κ β : Type} {P : Program} {w : World}
/-- Block b is a map that holds m. -/
def MapIs (ek : κ → Value) (ev : β → Value) (w : World) (b : Nat) (m : List (κ × β)) : Prop :=
 ∃ es clock, w.heap[b]? = some (.map es clock) ∧ es.toList.map (fun e => (e.key, e.val)) = m.map (fun p => (ek p.1, ev p.2)) ∧ (es.toList.map (·.born)).Nodup ∧ ∀ e ∈ es.toList, e.born < clock
variable {kt et t : TypeId} {ek : κ → Value} {ev : β → Value} {b : Nat} {m : List (κ × β)}
theorem MapIs.made (w : World) : MapIs ek ev (w.alloc (.map #[] 0)) w.heap.size [] := ⟨#[], 0, heap_alloc_new w _, rfl, by simp, by simp⟩
theorem MapIs.lt (h : MapIs ek ev w b m) : b < w.heap.size := by
 obtain ⟨es, clock, hb, _⟩ := h
 exact (Array.getElem?_eq_some_iff.1 hb).1
theorem MapIs.same {w' : World} (h : MapIs ek ev w b m) (hb : w'.heap[b]? = w.heap[b]?) : MapIs ek ev w' b m := by
 obtain ⟨es, clock, h1, h2⟩ := h
 exact ⟨es, clock, hb.trans h1, h2⟩
theorem MapIs.grew {w' : World} (h : MapIs ek ev w b m) (g : Grew w w') : MapIs ek ev w' b m := h.same (Below.block g b h.lt)
theorem MapIs.kept {w' : World} {row : Option Nat} (h : MapIs ek ev w b m) (g : w.grownBy w' row) (hne : some b ≠ row) : MapIs ek ev w' b m := h.same (g.block b h.lt hne)
theorem keys_of {l : List MapEntry} (h : l.map (fun e => (e.key, e.val)) = m.map (fun p => (ek p.1, ev p.2))) : l.map (·.key) = (m.map Prod.fst).map ek := by
 have := congrArg (List.map Prod.fst) h
 simpa [List.map_map, Function.comp_def] using this
theorem val_of {l : List MapEntry} (h : l.map (fun e => (e.key, e.val)) = m.map (fun p => (ek p.1, ev p.2))) {i : Nat} {p : κ × β} (hp : m[i]? = some p) : ∃ e, l[i]? = some e ∧ e.key = ek p.1 ∧ e.val = ev p.2 := by
 have := congrArg (·[i]?) h
 simp only [List.getElem?_map, hp, Option.map_some] at this
 cases he : l[i]? with
 | none => rw [he] at this; cases this
 | some e => rw [he] at this; injection this with this; injection this with h1 h2; exact ⟨e, rfl, h1, h2⟩
variable [DecidableEq κ]
theorem MapIs.lookup (h : MapIs ek ev w b m) (K : KeyOk P kt ek) (ht : P.underlying t = some (.map kt et)) {z : Value} (hz : (zeroValue et).run P w = .ok z w) (a : κ) (c : Bool) :
  (Instr.lookup t (.map (some b)) (ek a) c).run P w = .ok (if c then .tuple #[((alFind a m).map ev).getD z, .bool (alFind a m).isSome] else ((alFind a m).map ev).getD z) w := by
 obtain ⟨es, clock, hb, hm, _, _⟩ := h
 simp only [Instr.lookup, getObj, Sem.run_bind, Sem.run, run_underlying ht, hb, Result.andThen, Sem.run_pure, K.check, K.find a (m.map Prod.fst) es.toList w (keys_of hm)]
 rcases alIdx_spec a m with ⟨h1, h2, _⟩ | ⟨i, v0, h1, h2, h3, _⟩
 ·simp [h1, h2, hz]
 ·obtain ⟨e, he, _, hv⟩ := val_of hm h2
  simp [h1, h3]
  have he' : es[i]? = some e := by simpa using he
  simp [he', hv]
omit [DecidableEq κ] in
theorem grownBy_setBlock (w : World) (b : Nat) (o' : Obj) : w.grownBy (setBlock w b o') (some b) :=
 ⟨rfl, rfl, rfl, by simp [setBlock], fun k _ hk => by
  unfold setBlock
  simp only
  exact Array.getElem?_setIfInBounds_ne (fun e => hk (by rw [e]))⟩
omit [DecidableEq κ] in
theorem setBlock_get {o o' : Obj} (hb : w.heap[b]? = some o) : (setBlock w b o').heap[b]? = some o' := by
 have hlt := (Array.getElem?_eq_some_iff.1 hb).1
 simp [setBlock, hlt]
theorem MapIs.update (h : MapIs ek ev w b m) (K : KeyOk P kt ek) (ht : P.underlying t = some (.map kt et)) (a : κ) (v : β) :
  ∃ w', (Instr.mapUpdate t (.map (some b)) (ek a) (ev v)).run P w = .ok () w' ∧ MapIs ek ev w' b (alPut a v m) ∧ w.grownBy w' (some b) := by
 obtain ⟨es, clock, hb, hm, hn, hc⟩ := h
 simp only [Instr.mapUpdate, getObj, Sem.run_bind, Sem.run, run_underlying ht, hb, Result.andThen, K.check, K.find a (m.map Prod.fst) es.toList w (keys_of hm)]
 rcases alIdx_spec a m with ⟨h1, h2, h3⟩ | ⟨i, v0, h1, h2, h3, h4⟩
 ·refine ⟨setBlock w b (.map (es.push ⟨ek a, ev v, clock⟩) (clock + 1)), ?_, ⟨_, _, setBlock_get hb, ?_, ?_, ?_⟩, grownBy_setBlock w b _⟩
  ·simp [h1, setObj, Sem.run, hb, setBlock]
  ·rw [h3]; simp [hm]
  ·simp only [Array.toList_push, List.map_append, List.map_cons, List.map_nil]
   rw [List.nodup_append]
   refine ⟨hn, by simp, fun x hx y hy => ?_⟩
   simp at hy
   subst hy
   obtain ⟨e, he, rfl⟩ := List.mem_map.1 hx
   have := hc e he
   omega
  ·intro e he
   simp only [Array.toList_push, List.mem_append, List.mem_cons, List.not_mem_nil, or_false] at he
   rcases he with he | rfl
   ·have := hc e he; omega
   ·exact Nat.lt_succ_self _
 ·obtain ⟨e, he, hk, hv⟩ := val_of hm h2
  have he' : es[i]? = some e := by simpa using he
  refine ⟨setBlock w b (.map (es.modify i fun e => { e with key := ek a, val := ev v }) clock), ?_, ⟨_, _, setBlock_get hb, ?_, ?_, ?_⟩, grownBy_setBlock w b _⟩
  ·simp [h1, he', hk, Instr.keyThatStays, K.bits, setObj, Sem.run, hb, setBlock]
  ·rw [h4, List.map_set, ← hm]
   simp only [Array.toList_modify]
   apply List.ext_getElem?
   intro j
   simp only [List.getElem?_map, List.getElem?_modify, List.getElem?_set]
   by_cases hj : i = j
   ·subst hj
    simp [he']
    have := (Array.getElem?_eq_some_iff.1 he').1
    simp [this]
   ·simp [hj]
  ·have : (es.modify i fun e => { e with key := ek a, val := ev v }).toList.map (·.born) = es.toList.map (·.born) := by
    simp only [Array.toList_modify]
    apply List.ext_getElem?
    intro j
    simp only [List.getElem?_map, List.getElem?_modify]
    cases es.toList[j]? with
    | none => rfl
    | some x => by_cases hj : i = j <;> simp [hj]
   rw [this]; exact hn
  ·intro x hx
   simp only [Array.toList_modify] at hx
   obtain ⟨j, hj⟩ := List.mem_iff_getElem?.1 hx
   rw [List.getElem?_modify] at hj
   cases hy : es.toList[j]? with
   | none => rw [hy] at hj; simp at hj
   | some y =>
    rw [hy] at hj
    have hyc := hc y (List.mem_of_getElem? hy)
    by_cases hij : i = j
    ·simp [hij] at hj; rw [← hj]; exact hyc
    ·simp [hij] at hj; rw [← hj]; exact hyc
/-- The iterator in block r over the map in block b has the entries in rest still to come. -/
def IterIs (ek : κ → Value) (ev : β → Value) (w : World) (r b : Nat) (m rest : List (κ × β)) : Prop :=
 ∃ es clock since seen, w.heap[b]? = some (.map es clock) ∧ w.heap[r]? = some (.mapIter (some b) since seen clock) ∧
  es.toList.map (fun e => (e.key, e.val)) = m.map (fun p => (ek p.1, ev p.2)) ∧ (es.toList.map (·.born)).Nodup ∧ (∀ e ∈ es.toList, e.born < clock) ∧
  since = clock ∧ ∃ L : List MapEntry, L.Perm (leftOf es seen).toList ∧ L.map (fun e => (e.key, e.val)) = rest.map (fun p => (ek p.1, ev p.2))
omit [DecidableEq κ] in
theorem IterIs.map {r : Nat} {rest : List (κ × β)} (h : IterIs ek ev w r b m rest) : MapIs ek ev w b m := by
 obtain ⟨es, clock, since, seen, h1, _, h3, h4, h5, _⟩ := h
 exact ⟨es, clock, h1, h3, h4, h5⟩
omit [DecidableEq κ] in
theorem IterIs.lt {r : Nat} {rest : List (κ × β)} (h : IterIs ek ev w r b m rest) : r < w.heap.size ∧ b < w.heap.size ∧ r ≠ b := by
 obtain ⟨es, clock, since, seen, h1, h2, _⟩ := h
 refine ⟨(Array.getElem?_eq_some_iff.1 h2).1, (Array.getElem?_eq_some_iff.1 h1).1, ?_⟩
 rintro rfl
 rw [h1] at h2
 cases h2
omit [DecidableEq κ] in
theorem IterIs.same {w' : World} {r : Nat} {rest : List (κ × β)} (h : IterIs ek ev w r b m rest) (hb : w'.heap[b]? = w.heap[b]?) (hr : w'.heap[r]? = w.heap[r]?) : IterIs ek ev w' r b m rest := by
 obtain ⟨es, clock, since, seen, h1, h2, h3⟩ := h
 exact ⟨es, clock, since, seen, hb.trans h1, hr.trans h2, h3⟩
omit [DecidableEq κ] in
theorem IterIs.grew {w' : World} {r : Nat} {rest : List (κ × β)} (h : IterIs ek ev w r b m rest) (g : Grew w w') : IterIs ek ev w' r b m rest :=
 h.same (Below.block g b h.lt.2.1) (Below.block g r h.lt.1)
omit [DecidableEq κ] in
theorem IterIs.kept {w' : World} {row : Option Nat} {r : Nat} {rest : List (κ × β)} (h : IterIs ek ev w r b m rest) (g : w.grownBy w' row) (hb : some b ≠ row) (hr : some r ≠ row) : IterIs ek ev w' r b m rest :=
 h.same (g.block b h.lt.2.1 hb) (g.block r h.lt.1 hr)
omit [DecidableEq κ] in
theorem MapIs.range (h : MapIs ek ev w b m) (ht : P.underlying t = some (.map kt et)) :
  ∃ w', (Instr.range t (.map (some b))).run P w = .ok (.pointer (some ⟨w.heap.size, 0, none⟩)) w' ∧ IterIs ek ev w' w.heap.size b m m ∧ Grew w w' := by
 obtain ⟨es, clock, hb, hm, hn, hc⟩ := h
 have hlt := (Array.getElem?_eq_some_iff.1 hb).1
 refine ⟨w.alloc (.mapIter (some b) clock #[] clock), ?_, ⟨es, clock, clock, #[], ?_, heap_alloc_new w _, hm, hn, hc, rfl, es.toList, ?_, hm⟩, (Grew.refl w).alloc _⟩
 ·simp only [Instr.range, getObj, Sem.run_bind, Sem.run, run_underlying ht, hb, newObj, Result.andThen, Sem.run_pure]
  rfl
 ·exact (World.grownBy_alloc w _ none).block b hlt (by simp) |>.trans hb
 ·have : (leftOf es #[]).toList = es.toList := by unfold leftOf; simp
  rw [this]
theorem erase_born : ∀ {L : List MapEntry} {i : Nat} {e : MapEntry}, (L.map (·.born)).Nodup → L[i]? = some e → L.eraseIdx i = L.filter fun x => x.born != e.born
 | [], i, e, _, h => by simp at h
 | x :: L, 0, e, hn, h => by
  simp at h
  subst h
  simp only [List.map_cons, List.nodup_cons] at hn
  simp only [List.eraseIdx_cons_zero, List.filter_cons, bne_self_eq_false, Bool.false_eq_true, if_false]
  rw [List.filter_eq_self.2]
  intro y hy
  have : y.born ≠ x.born := fun he => hn.1 (he ▸ List.mem_map.2 ⟨y, hy, rfl⟩)
  simpa using this
 | x :: L, i + 1, e, hn, h => by
  simp only [List.map_cons, List.nodup_cons] at hn
  have h' : L[i]? = some e := by simpa using h
  have hne : x.born ≠ e.born := fun he => hn.1 (he ▸ List.mem_map.2 ⟨e, List.mem_of_getElem? h', rfl⟩)
  simp only [List.eraseIdx_cons_succ, List.filter_cons]
  rw [if_pos (by simpa using hne), erase_born hn.2 h']
omit [DecidableEq κ] in
theorem IterIs.next {r : Nat} {rest : List (κ × β)} (h : IterIs ek ev w r b m rest) (ty : TypeId) :
  (rest = [] ∧ (Instr.next (.pointer (some ⟨r, 0, none⟩)) false ty).run P w = .ok (.tuple #[.bool false]) w) ∨
  ∃ (i : Nat) (p : κ × β) (w' : World), rest[i]? = some p ∧ (Instr.next (.pointer (some ⟨r, 0, none⟩)) false ty).run P w = .ok (.tuple #[.bool true, ek p.1, ev p.2]) w' ∧
   IterIs ek ev w' r b m (rest.eraseIdx i) ∧ w.grownBy w' (some r) ∧ (Instr.entry (.pointer (some ⟨r, 0, none⟩))).run P w' = .ok (.tuple #[ek p.1, ev p.2]) w' := by
 have hne := h.lt.2.2
 obtain ⟨es, clock, since, seen, h1, h2, h3, h4, h5, rfl, L, hL, hr⟩ := h
 rcases run_next_at (P := P) w ty r b since since seen es since h2 h1 h5 (Nat.le_refl _) with ⟨h0, hrun⟩ | ⟨e, he, w1, hw1, hrun⟩
 ·refine .inl ⟨?_, hrun⟩
  have hl : L = [] := List.eq_nil_of_length_eq_zero (by rw [hL.length_eq]; simpa using h0)
  subst hl
  simpa using hr.symm
 ·have hmem : e ∈ L := hL.mem_iff.2 he
  obtain ⟨i, hi⟩ := List.mem_iff_getElem?.1 hmem
  have hp := congrArg (·[i]?) hr
  simp only [List.getElem?_map, hi, Option.map_some] at hp
  cases hpi : rest[i]? with
  | none => rw [hpi] at hp; cases hp
  | some p =>
   rw [hpi] at hp
   simp only [Option.map_some, Option.some.injEq, Prod.mk.injEq] at hp
   have hg0 : w.grownBy w1 (some r) ∧ w1.heap = w.heap := by
    rcases hw1 with rfl | rfl
    ·exact ⟨World.grownBy.refl _ _, rfl⟩
    ·exact ⟨⟨rfl, rfl, rfl, Nat.le_refl _, fun _ _ _ => rfl⟩, rfl⟩
   have hr1 : w1.heap[r]? = some (.mapIter (some b) since seen since) := by rw [hg0.2]; exact h2
   have hb1 : w1.heap[b]? = some (.map es since) := by rw [hg0.2]; exact h1
   have hset : (setBlock w1 r (.mapIter (some b) since (seen.push e.born) since)).heap[r]? = some (.mapIter (some b) since (seen.push e.born) since) := setBlock_get hr1
   have hbs : (setBlock w1 r (.mapIter (some b) since (seen.push e.born) since)).heap[b]? = some (.map es since) :=
    ((grownBy_setBlock w1 r _).block b (Array.getElem?_eq_some_iff.1 hb1).1 (fun h => hne (by injection h with h; exact h.symm))).trans hb1
   have hee : e ∈ es.toList := by
    have := he; unfold leftOf at this; simp at this ⊢; exact this.1
   refine .inr ⟨i, p, _, hpi, by rw [← hp.1, ← hp.2]; exact hrun, ⟨es, since, since, seen.push e.born, hbs, hset, h3, h4, h5, rfl, L.eraseIdx i, ?_, ?_⟩, ?_, ?_⟩
   ·have hLn : (L.map (·.born)).Nodup := (hL.map _).nodup_iff.2 (h4.sublist (List.Sublist.map _ (by unfold leftOf; simp)))
    have hfil : L.eraseIdx i = L.filter fun x => x.born != e.born := erase_born hLn hi
    rw [hfil]
    have hleft : (leftOf es (seen.push e.born)).toList = (leftOf es seen).toList.filter fun x => x.born != e.born := by
     unfold leftOf
     simp only [Array.toList_filter, List.filter_filter]
     apply List.filter_congr
     intro x _
     simp [Bool.and_comm]
     cases h : decide (x.born = e.born) <;> simp_all
    rw [hleft]
    exact hL.filter _
   ·rw [Go.ChangeMaps.map_eraseIdx, hr, Go.ChangeMaps.map_eraseIdx]
   ·exact ⟨hg0.1.os, hg0.1.tape, hg0.1.output, by simp [setBlock, hg0.2], fun k hk hkr => ((grownBy_setBlock w1 r _).block k (by rw [hg0.2]; exact hk) hkr).trans (by rw [hg0.2])⟩
   ·rw [← hp.1, ← hp.2]
    exact run_entry_at _ r b since seen es since e hset hbs hee h4
end
end WageMap
namespace WageMap
open Go Go.RowKit WageMem
variable {κ β : Type} {ek : κ → Value} {ev : β → Value} {w : World} {r b : Nat} {m rest : List (κ × β)}
def iterLeft (w : World) (b r : Nat) : Nat :=
 match w.heap[b]?, w.heap[r]? with
 | some (.map es _), some (.mapIter _ _ seen _) => (leftOf es seen).size
 | _, _ => 0
theorem IterIs.left (h : IterIs ek ev w r b m rest) : iterLeft w b r = rest.length := by
 obtain ⟨es, clock, since, seen, h1, h2, _, _, _, _, L, hL, hr⟩ := h
 unfold iterLeft
 rw [h1, h2]
 have e1 := hL.length_eq
 have e2 := congrArg List.length hr
 simp at e1 e2
 simp only
 omega
theorem erase_perm {α : Type} : ∀ {l : List α} {i : Nat} {x : α}, l[i]? = some x → (x :: l.eraseIdx i).Perm l
 | [], i, x, h => by simp at h
 | y :: l, 0, x, h => by simp at h; subst h; simp
 | y :: l, i + 1, x, h => by
  have h' : l[i]? = some x := by simpa using h
  simp only [List.eraseIdx_cons_succ]
  exact (List.Perm.swap y x _).trans ((erase_perm h').cons y)
end WageMap
namespace WageRec
open Go Go.RowKit WageMem
section
variable {α : Type} {enc : α → List Value} {size : Nat}
/-- Each element takes so many cells. -/
structure EncOk (enc : α → List Value) (size : Nat) : Prop where
 len : ∀ x, (enc x).length = size
 pos : 0 < size
 one : ∀ x, ∀ u ∈ enc x, u.oneCell' = true
theorem flat_len (E : EncOk enc size) (l : List α) : (l.flatMap enc).length = l.length * size := by
 induction l with
 | nil => simp
 | cons x l ih => rw [List.flatMap_cons, List.length_append, ih, E.len, List.length_cons, Nat.add_mul, Nat.one_mul, Nat.add_comm]
theorem flat_one (E : EncOk enc size) (l : List α) : ∀ u ∈ l.flatMap enc, u.oneCell' = true := by
 intro u hu
 obtain ⟨x, _, hx⟩ := List.mem_flatMap.1 hu
 exact E.one x u hx
theorem flat_take (E : EncOk enc size) : ∀ (l : List α) (q : Nat), (l.flatMap enc).take (q * size) = (l.take q).flatMap enc
 | [], q => by simp
 | x :: l, 0 => by simp
 | x :: l, q + 1 => by
  rw [List.flatMap_cons, List.take_succ_cons, List.flatMap_cons, ← flat_take E l q, List.take_append, E.len, Nat.add_mul, Nat.one_mul]
  rw [List.take_of_length_le (by rw [E.len]; omega), Nat.add_sub_cancel]
theorem flat_drop (E : EncOk enc size) : ∀ (l : List α) (q : Nat), (l.flatMap enc).drop (q * size) = (l.drop q).flatMap enc
 | [], q => by simp
 | x :: l, 0 => by simp
 | x :: l, q + 1 => by
  rw [List.flatMap_cons, List.drop_succ_cons, ← flat_drop E l q, List.drop_append, E.len, Nat.add_mul, Nat.one_mul]
  rw [List.drop_of_length_le (by rw [E.len]; omega), Nat.add_sub_cancel, List.nil_append]
theorem flat_at (E : EncOk enc size) {l : List α} {k : Nat} {x : α} (h : l[k]? = some x) {j : Nat} {u : Value} (hu : (enc x)[j]? = some u) : (l.flatMap enc)[k * size + j]? = some u := by
 have h1 : (l.flatMap enc)[k * size + j]? = ((l.flatMap enc).drop (k * size))[j]? := by rw [List.getElem?_drop]
 rw [h1, flat_drop E]
 have hlt := (List.getElem?_eq_some_iff.1 h).1
 rw [List.drop_eq_getElem_cons hlt, List.flatMap_cons]
 have hx : l[k] = x := (List.getElem?_eq_some_iff.1 h).2
 rw [hx, List.getElem?_append_left (List.getElem?_eq_some_iff.1 hu).1]
 exact hu
/-- A slice of structs. -/
def Recs (enc : α → List Value) (size : Nat) (w : World) (A : Option Addr) (n c : Nat) (l : List α) : Prop := l.length = n ∧ Sl w size A n c (l.flatMap enc)
variable {w w' : World} {A : Option Addr} {n c : Nat} {l : List α}
theorem Recs.grew (h : Recs enc size w A n c l) (g : Grew w w') : Recs enc size w' A n c l := ⟨h.1, h.2.grew g⟩
theorem Recs.none_ : Recs enc size w none 0 0 [] := ⟨rfl, ⟨Nat.le_refl _, Nat.zero_le _, by simp, Cells.nil, fun _ => ⟨rfl, rfl⟩⟩⟩
theorem Recs.le (h : Recs enc size w A n c l) : n ≤ 9223372036854775807 := Nat.le_trans h.2.1 h.2.2.1
theorem Recs.cap (h : Recs enc size w A n c l) : n ≤ c := h.2.1
theorem Recs.at_ (E : EncOk enc size) (h : Recs enc size w A n c l) {k : Nat} (hk : k < n) : ∃ b o x, A = some ⟨b, o, none⟩ ∧ l[k]? = some x ∧ w.rangeAt b (o + k * size) (enc x) := by
 have hl : k < l.length := by rw [h.1]; exact hk
 have hne : l.flatMap enc ≠ [] := by
  intro h0
  have := flat_len E l
  rw [h0, h.1] at this
  have hp := Nat.mul_pos (show 0 < n by omega) E.pos
  simp at this
  omega
 obtain ⟨b, o, e, hc⟩ := h.2.2.2.2.1 hne
 refine ⟨b, o, l[k], e, List.getElem?_eq_getElem hl, fun j u hu => ?_⟩
 rw [Nat.add_assoc]
 exact hc _ u (flat_at E (List.getElem?_eq_getElem hl) hu)
theorem Recs.own {base : Nat} {e : TypeId} (hn : l.length = n) (h : w.ownsRow base e size (.slice A n c) n (l.flatMap enc)) : Recs enc size w A n c l := ⟨hn, Sl.own h⟩
theorem Recs.head (E : EncOk enc size) (h : Recs enc size w A n c l) {q k : Nat} (hq : q ≤ n) (hk : q ≤ k) (hkc : k ≤ c) : Recs enc size w A q k (l.take q) :=
 ⟨by rw [List.length_take, h.1]; omega, by rw [← flat_take E]; exact h.2.head hq hk hkc⟩
theorem Recs.tail (E : EncOk enc size) (h : Recs enc size w A n c l) {q : Nat} (hq : q ≤ n) : Recs enc size w (tailA A c q size) (n - q) (c - q) (l.drop q) :=
 ⟨by rw [List.length_drop, h.1], by rw [← flat_drop E]; exact h.2.tail hq⟩
/-- A row that has just been built. -/
theorem Recs.built (E : EncOk enc size) {t : TypeId} (cs : Array Value) (hcs : cs = (l.flatMap enc).toArray) (hn : l.length = n) (hm : n ≤ 1000) : Recs enc size (w.alloc (.cells cs t)) (some ⟨w.heap.size, 0, none⟩) n n l := by
 subst hcs
 refine ⟨hn, Nat.le_refl _, by unfold maxLen; omega, by rw [flat_len E, hn], fun _ => ⟨w.heap.size, 0, rfl, fun j u hu => ?_⟩, fun h => by cases h⟩
 rw [cell_of_row _ w.heap.size (0 + j) _ t (0, 0) (heap_alloc_new w _), Nat.zero_add]
 simpa using hu
/-- A variable that has just been made. -/
theorem range_new (w : World) (cs : List Value) (t : TypeId) : (w.alloc (.cells cs.toArray t)).rangeAt w.heap.size 0 cs := by
 intro j u hu
 rw [cell_of_row _ w.heap.size (0 + j) _ t (0, 0) (heap_alloc_new w _), Nat.zero_add]
 simpa using hu
end
end WageRec
namespace WageMap
open Go Go.RowKit WageMem WageRec
variable {κ β α : Type} {ek : κ → Value} {ev : β → Value} {w w' : World} {r b : Nat} {m rest : List (κ × β)} {enc : α → List Value} {size : Nat} {A : Option Addr} {n c : Nat} {l : List α}
end WageMap
namespace WageReg
open Go
section
variable {P : Program} {ops : Array Oper} {Q : Exit → Act → World → Prop} {md : Region.Mode} {G : World → World → Prop}
/-- In state 'a', in every world that has grown out of 'w', operation 'o' leaves 'v' in its temporary and the world only grows. -/
def YieldsG (P : Program) (ops : Array Oper) (G : World → World → Prop) (o : Oper) (v : Value) (a : Act) (w : World) : Prop :=
 (Region.wanted o (yielded ops a.tmps) = true ∧ ∀ w', G w w' → (execOp a.eval o).run P w' = .ok (.value v) w') ∨
 (Region.wanted o (yielded ops a.tmps) = false ∧ v = undef) ∨
 (Region.wanted o (yielded ops a.tmps) = true ∧ ∃ f args, (∀ w', (execOp a.eval o).run P w' = .ok (.enter f args) w') ∧
  ∀ w', G w w' → Calls P f args w' fun e w1 => e = .returned v ∧ G w' w1)
theorem YieldsG.pure {o : Oper} {v : Value} {a : Act} {w : World} (hw : Region.wanted o (yielded ops a.tmps) = true) (h : ∀ w', G w w' → (execOp a.eval o).run P w' = .ok (.value v) w') : YieldsG P ops G o v a w := .inl ⟨hw, h⟩
theorem YieldsG.skip {o : Oper} {a : Act} {w : World} (hw : Region.wanted o (yielded ops a.tmps) = false) : YieldsG P ops G o undef a w := .inr (.inl ⟨hw, rfl⟩)
theorem YieldsG.call {o : Oper} {v : Value} {a : Act} {w : World} (hw : Region.wanted o (yielded ops a.tmps) = true) (f : FuncId) (args : Array Value)
  (hx : ∀ w', (execOp a.eval o).run P w' = .ok (.enter f args) w') (h : ∀ w', G w w' → Calls P f args w' fun e w1 => e = .returned v ∧ G w' w1) : YieldsG P ops G o v a w :=
 .inr (.inr ⟨hw, f, args, hx, h⟩)
theorem YieldsG.mono {o : Oper} {v : Value} {a : Act} {w w1 : World} (ht : ∀ a b c, G a b → G b c → G a c) (h : YieldsG P ops G o v a w) (hg : G w w1) : YieldsG P ops G o v a w1 := by
 rcases h with ⟨hw, hv⟩ | h | ⟨hw, f, args, hx, hv⟩
 ·exact .inl ⟨hw, fun w' h' => hv w' (ht _ _ _ hg h')⟩
 ·exact .inr (.inl h)
 ·exact .inr (.inr ⟨hw, f, args, hx, fun w' h' => hv w' (ht _ _ _ hg h')⟩)
theorem YieldsG.wpOp {i : Nat} {o : Oper} {v : Value} {a : Act} (hi : ops[i]? = some o) {w : World} (hy : YieldsG P ops G o v a w) (hr : ∀ a, G a a)
  {K : Act → World → Prop} {w' : World} (hg : G w w') (h : ∀ w1, G w' w1 → K (a.put o.dst v) w1) : wpOp P ops Q i K a w' := by
 unfold Go.wpOp
 simp only [hi]
 rcases hy with ⟨hw, hv⟩ | ⟨hw, rfl⟩ | ⟨hw, f, args, hx, hv⟩
 ·simp only [hw, if_true, Oper.wp, hv w' hg, Oper.upon]; exact .inl (h _ (hr _))
 ·simp only [hw, Bool.false_eq_true, if_false]; exact h _ (hr _)
 ·simp only [hw, if_true, Oper.wp, hx w', Oper.upon]
  refine .inl ((hv w' hg).mono ?_)
  rintro e w1 ⟨rfl, h1⟩
  exact h w1 h1
theorem YieldsG.of_same {o : Oper} {v : Value} {a a' : Act} {w : World} (hy : YieldsG P ops G o v a w) (he : execOp a'.eval o = execOp a.eval o)
  (hw : Region.wanted o (yielded ops a'.tmps) = Region.wanted o (yielded ops a.tmps)) : YieldsG P ops G o v a' w := by
 unfold YieldsG at *
 rw [he, hw]
 exact hy
theorem wpOp_putG {j : Nat} {oi oj : Oper} {v : Value} {w0 : World} (hj : ops[j]? = some oj) (hap : oi.apart ops oj = true)
  (hsi : ∀ cs b, oi.op ≠ .select cs b) (hsj : ∀ cs b, oj.op ≠ .select cs b)
  (hQ : ∀ c a w, Q (.panic c) (a.put oi.dst v) w → Q (.panic c) a w) {K : Act → World → Prop} {a : Act} {w : World}
  (hy : YieldsG P ops G oi v a w0) (h : wpOp P ops Q j K (a.put oi.dst v) w) :
  wpOp P ops Q j (fun a' w' => YieldsG P ops G oi v a' w0 ∧ K (a'.put oi.dst v) w') a w := by
 obtain ⟨h1, h2, h3⟩ := Oper.apart_spec hap
 have keep : ∀ (a : Act), YieldsG P ops G oi v a w0 → ∀ u, YieldsG P ops G oi v (a.put oj.dst u) w0 := fun a hy u =>
  hy.of_same (execOp_put oi hsi a oj.dst u h3) (wanted_put oi a oj.dst u h3)
 have keepD : ∀ d, YieldsG P ops G oi v { a with defers := d :: a.defers } w0 := fun d => hy.of_same rfl rfl
 unfold wpOp at *
 simp only [hj] at *
 rw [wanted_put oj a oi.dst v h1] at h
 split
 ·rename_i hw
  simp only [hw, if_true] at h
  rcases h with h | ⟨hasks, hlets⟩
  case inr => exact .inr ⟨by unfold Oper.asks at *; rw [execOp_put oj hsj a oi.dst v h1] at hasks; exact hasks, hlets⟩
  refine .inl ?_
  unfold Oper.wp at *
  rw [execOp_put oj hsj a oi.dst v h1] at h
  generalize (execOp a.eval oj).run P w = r at *
  cases r with
  | ok n w' =>
   cases n <;> simp only [Oper.upon] at h ⊢
   case value u => exact ⟨keep a hy u, by rw [← Act.put_comm a v u h2]; exact h⟩
   case skip => exact ⟨keep a hy _, by rw [← Act.put_comm a v undef h2]; exact h⟩
   case defer d =>
    refine ⟨keep _ (keepD d) _, ?_⟩
    rw [← Act.put_comm _ v undef h2, ← Act.put_defers]
    exact h
   case enter f args =>
    refine Calls.mono h fun e w'' he => ?_
    cases e with
    | returned u => exact ⟨keep a hy u, by rw [← Act.put_comm a v u h2]; exact he⟩
    | panicked c => exact hQ _ _ _ he
    | outgrown => exact he
   case row row args => exact Rows.mono h fun u w'' he => ⟨keep a hy u, by rw [← Act.put_comm a v u h2]; exact he⟩
  | halt x w' =>
   cases x <;> simp only [Oper.upon] at h ⊢
   case panic u => exact hQ _ _ _ h
 ·rename_i hw
  simp only [hw] at h
  exact ⟨keep a hy _, by rw [← Act.put_comm a v undef h2]; exact h⟩
/-- m stands behind i by the region's edges. -/
def reaches (md : Region.Mode) (ops : Array Oper) (i : Nat) : Nat → Nat → Bool
 | 0, _ => false
 | n + 1, m => match ops[m]? with
  | none => false
  | some o => o.after.any fun e => Region.binds md e && (e.on == i || reaches md ops i n e.on)
/-- i is not m and m, if it is one of the operations at all, stands behind i. -/
def spares (md : Region.Mode) (ops : Array Oper) (m i : Nat) : Bool := decide (ops.size ≤ m) || (i != m && reaches md ops i ops.size m)
/-- With an operation those are listed that it waits for. -/
def Closed (md : Region.Mode) (ops : Array Oper) (listed : Array Bool) : Prop := ∀ j o, ops[j]? = some o → listed.getD j true = true → ∀ e ∈ o.after, Region.binds md e = true → listed.getD e.on false = true
def closedB (md : Region.Mode) (ops : Array Oper) (listed : Array Bool) : Bool := (List.range ops.size).all fun j => match ops[j]? with
 | none => true
 | some o => !listed.getD j true || o.after.all fun e => !Region.binds md e || listed.getD e.on false
theorem closedB_spec {listed : Array Bool} (h : closedB md ops listed = true) : Closed md ops listed := by
 intro j o ho hl e he hb
 simp only [closedB, List.all_eq_true, List.mem_range] at h
 have h1 := h j (Array.getElem?_eq_some_iff.1 ho).1
 simp only [ho, hl, Bool.not_true, Bool.false_or] at h1
 have h2 := Array.all_eq_true_iff_forall_mem.1 h1 e he
 simpa [hb] using h2
theorem Closed.set {listed : Array Bool} (h : Closed md ops listed) {i : Nat} (hi : i ∈ Region.ready md ops listed) : Closed md ops (listed.setIfInBounds i true) := by
 intro j o ho hl e he hb
 by_cases hij : i = j
 ·subst hij
  obtain ⟨_, o', ho', hall⟩ := mem_ready.1 hi
  rw [ho] at ho'
  injection ho' with ho'
  subst ho'
  exact getD_set_true (hall e he hb)
 ·rw [getD_set_ne true hij] at hl
  exact getD_set_true (h j o ho hl e he hb)
theorem reaches_listed {listed : Array Bool} (h : Closed md ops listed) {i : Nat} : ∀ {n m : Nat} {o : Oper}, reaches md ops i n m = true → ops[m]? = some o →
  (∀ e ∈ o.after, Region.binds md e = true → listed.getD e.on false = true) → listed.getD i false = true
 | 0, _, _, hr, _, _ => by cases hr
 | n + 1, m, o, hr, ho, hall => by
  unfold reaches at hr
  rw [ho] at hr
  obtain ⟨e, he, hb⟩ := Array.any_eq_true'.1 hr
  simp only [Bool.and_eq_true, Bool.or_eq_true, beq_iff_eq] at hb
  obtain ⟨hb1, hb2⟩ := hb
  have hl := hall e he hb1
  rcases hb2 with rfl | hb2
  ·exact hl
  ·cases ho' : ops[e.on]? with
   | none => unfold reaches at hb2; cases n <;> simp_all
   | some o' =>
    have hl' : listed.getD e.on true = true := by
     rcases Nat.lt_or_ge e.on listed.size with h' | h'
     ·simp [h'] at hl ⊢; exact hl
     ·simp [Array.getElem?_eq_none h'] at hl
    exact reaches_listed h hb2 ho' (fun e' he' hb' => h e.on o' ho' hl' e' he' hb')
/-- Whatever order is picked, and whatever is made in memory between two operations; behind operation m nothing is asked of the world, and what is left goes by 'wpAny'. -/
def wpAnyG (P : Program) (md : Region.Mode) (ops : Array Oper) (Q : Exit → Act → World → Prop) (G : World → World → Prop) (m : Nat) : Nat → Array Bool → Act → World → Prop
 | 0, listed, a, w => Region.ready md ops listed = [] ∧ ∀ w', G w w' → Q .normal a w'
 | fuel + 1, listed, a, w => ∀ w', G w w' →
  (Region.ready md ops listed = [] → Q .normal a w') ∧
  ∀ i ∈ Region.ready md ops listed, wpOp P ops Q i (fun a1 w1 => (i = m ∧ wpAny P md ops Q fuel (listed.setIfInBounds i true) a1 w1) ∨
   (G w' w1 ∧ wpAnyG P md ops Q G m fuel (listed.setIfInBounds i true) a1 w1)) a w'
variable {m : Nat}
theorem wpAnyG.mono (ht : ∀ a b c, G a b → G b c → G a c) {a : Act} {w w1 : World} (hg : G w w1) : ∀ {fuel : Nat} {listed : Array Bool}, wpAnyG P md ops Q G m fuel listed a w → wpAnyG P md ops Q G m fuel listed a w1
 | 0, _, h => ⟨h.1, fun w' h' => h.2 w' (ht _ _ _ hg h')⟩
 | _ + 1, _, h => fun w' h' => h w' (ht _ _ _ hg h')
theorem wpAny_of_G (hr : ∀ a, G a a) : ∀ (fuel : Nat) (listed : Array Bool) (a : Act) (w : World), wpAnyG P md ops Q G m fuel listed a w → wpAny P md ops Q fuel listed a w
 | 0, _, _, w, h => ⟨h.1, h.2 w (hr w)⟩
 | fuel + 1, _, _, w, h => ⟨(h w (hr w)).1, fun i hi => wpOp_mono (fun a' w' h' => h'.elim (fun h1 => h1.2) (fun h1 => wpAny_of_G hr fuel _ a' w' h1.2)) ((h w (hr w)).2 i hi)⟩
/-- An operation that may come up now, yields one value in every grown world and only makes memory may be taken first. -/
theorem wpAnyG_first (hr0 : ∀ a, G a a) (ht : ∀ a b c, G a b → G b c → G a c) {i : Nat} {oi : Oper} {v : Value} (hi : ops[i]? = some oi) (hsel : ∀ (j : Nat) (o : Oper) cs b, ops[j]? = some o → o.op ≠ .select cs b)
  (hQ : ∀ c a w, Q (.panic c) (a.put oi.dst v) w → Q (.panic c) a w) (hsp : spares md ops m i = true) :
  ∀ (fuel : Nat) (listed : Array Bool) (a : Act) (w : World), Closed md ops listed →
   (∀ j oj, ops[j]? = some oj → j ≠ i → listed.getD j true = false → (∀ e ∈ oj.after, Region.binds md e = true → e.on ≠ i) → oi.apart ops oj = true) →
   i ∈ Region.ready md ops listed → YieldsG P ops G oi v a w →
   wpAnyG P md ops Q G m fuel (listed.setIfInBounds i true) (a.put oi.dst v) w → wpAnyG P md ops Q G m (fuel + 1) listed a w := by
 intro fuel
 induction fuel with
 | zero =>
  intro listed a w _ _ hr hy H w' hg
  refine ⟨fun h => (by rw [h] at hr; cases hr), fun j hj => ?_⟩
  by_cases hji : j = i
  ·subst hji
   exact hy.wpOp hi hr0 hg (fun w1 h1 => .inr ⟨h1, H.1, fun w2 h2 => H.2 w2 (ht _ _ _ hg (ht _ _ _ h1 h2))⟩)
  ·have := ready_mono hj hji
   rw [H.1] at this
   cases this
 | succ fuel ih =>
  intro listed a w hcl hfree hr hy H w' hg
  refine ⟨fun h => (by rw [h] at hr; cases hr), fun j hj => ?_⟩
  by_cases hji : j = i
  ·subst hji
   exact hy.wpOp hi hr0 hg (fun w1 h1 => .inr ⟨h1, wpAnyG.mono ht (ht _ _ _ hg h1) H⟩)
  ·have h1 := (H w' hg).2 j (ready_mono hj hji)
   obtain ⟨hjun, oj, hoj, hall⟩ := mem_ready.1 hj
   have hnoti : listed.getD i false ≠ true := by
    have h0 := (mem_ready.1 hr).1
    rcases Nat.lt_or_ge i listed.size with h' | h'
    ·simp [h'] at h0 ⊢; exact h0
    ·simp [Array.getElem?_eq_none h']
   have hnot : ∀ e ∈ oj.after, Region.binds md e = true → e.on ≠ i := fun e he hb heq => by
    have h1 := hall e he hb
    rw [heq] at h1
    exact hnoti h1
   have hjm : j ≠ m := by
    rintro rfl
    simp only [spares, Bool.or_eq_true, decide_eq_true_eq, Bool.and_eq_true] at hsp
    rcases hsp with hsp | hsp
    ·have := (Array.getElem?_eq_some_iff.1 hoj).1; omega
    ·exact hnoti (reaches_listed hcl hsp.2 hoj hall)
   have h2 := wpOp_putG hoj (hfree j oj hoj hji hjun hnot) (fun cs b => hsel i oi cs b hi) (fun cs b => hsel j oj cs b hoj) hQ hy h1
   have hfree' : ∀ k ok, ops[k]? = some ok → k ≠ i → (listed.setIfInBounds j true).getD k true = false →
     (∀ e ∈ ok.after, Region.binds md e = true → e.on ≠ i) → oi.apart ops ok = true := fun k ok hk hki hun hno => by
    refine hfree k ok hk hki ?_ hno
    by_cases hjk : j = k
    ·subst hjk; exact hjun
    ·rw [getD_set_ne true hjk] at hun; exact hun
   refine wpOp_mono (fun a' w1 h3 => ?_) h2
   obtain ⟨hy', h4⟩ := h3
   rcases h4 with ⟨hjm', _⟩ | ⟨hg1, h4⟩
   ·exact absurd hjm' hjm
   ·refine .inr ⟨hg1, ih (listed.setIfInBounds j true) a' w1 (hcl.set hj) hfree' (ready_mono hr (Ne.symm hji)) (hy'.mono ht (ht _ _ _ hg hg1)) ?_⟩
    rw [Array.setIfInBounds_comm _ _ hji]
    exact h4
/-- What is asked of the walk at a take, as one Bool. -/
def mayTake (md : Region.Mode) (ops : Array Oper) (m : Nat) (listed : Array Bool) (i : Nat) : Bool :=
 Region.noSelect ops && Region.free md ops listed i && (Region.ready md ops listed).contains i && spares md ops m i && closedB md ops listed
theorem wpAnyG_take (hr0 : ∀ a, G a a) (ht : ∀ a b c, G a b → G b c → G a c) {i : Nat} {oi : Oper} {v : Value} {fuel : Nat} {listed : Array Bool} {a : Act} {w : World} (hi : ops[i]? = some oi)
  (hm : mayTake md ops m listed i = true)
  (hQ : ∀ c a w, Q (.panic c) (a.put oi.dst v) w → Q (.panic c) a w) (hy : YieldsG P ops G oi v a w)
  (h : wpAnyG P md ops Q G m fuel (listed.setIfInBounds i true) (a.put oi.dst v) w) : wpAnyG P md ops Q G m (fuel + 1) listed a w := by
 simp only [mayTake, Bool.and_eq_true] at hm
 obtain ⟨⟨⟨⟨hs, hf⟩, hr⟩, hsp⟩, hc⟩ := hm
 exact wpAnyG_first hr0 ht hi (Region.noSelect_spec hs) hQ hsp fuel listed a w (closedB_spec hc) (Region.free_spec hi hf) (by simpa using hr) hy h
theorem wpAnyG_all {rs : List Nat} {fuel : Nat} {listed : Array Bool} {a : Act} {w : World} (hr : Region.ready md ops listed = rs) (hne : rs ≠ [])
  (h : ∀ w', G w w' → ∀ i ∈ rs, wpOp P ops Q i (fun a1 w1 => (i = m ∧ wpAny P md ops Q fuel (listed.setIfInBounds i true) a1 w1) ∨
   (G w' w1 ∧ wpAnyG P md ops Q G m fuel (listed.setIfInBounds i true) a1 w1)) a w') : wpAnyG P md ops Q G m (fuel + 1) listed a w :=
 fun w' hg => ⟨fun h0 => absurd (hr ▸ h0) hne, hr ▸ h w' hg⟩
/-- One operation alone may come up. -/
theorem wpAnyG_one {i : Nat} {o : Oper} {fuel : Nat} {listed : Array Bool} {a : Act} {w : World} (hr : Region.ready md ops listed = [i]) (ho : ops[i]? = some o) (hg : o.guard = none)
  (h : ∀ w', G w w' → ∀ K : Act → World → Prop, (∀ a1 w1, G w' w1 → wpAnyG P md ops Q G m fuel (listed.setIfInBounds i true) a1 w1 → K a1 w1) → o.wp P a w' K Q) : wpAnyG P md ops Q G m (fuel + 1) listed a w := by
 refine wpAnyG_all hr (by simp) fun w' hw j hj => ?_
 obtain rfl : j = i := by simpa using hj
 unfold wpOp
 simp only [ho, Region.wanted, hg, if_true]
 exact .inl (h w' hw _ fun a1 w1 h1 h2 => .inr ⟨h1, h2⟩)
/-- Operation m, alone: nothing is asked of the world behind it. -/
theorem wpAnyG_last {o : Oper} {fuel : Nat} {listed : Array Bool} {a : Act} {w : World} (hr : Region.ready md ops listed = [m]) (ho : ops[m]? = some o) (hg : o.guard = none)
  (h : ∀ w', G w w' → ∀ K : Act → World → Prop, (∀ a1 w1, wpAny P md ops Q fuel (listed.setIfInBounds m true) a1 w1 → K a1 w1) → o.wp P a w' K Q) : wpAnyG P md ops Q G m (fuel + 1) listed a w := by
 refine wpAnyG_all hr (by simp) fun w' hw j hj => ?_
 obtain rfl : j = m := by simpa using hj
 unfold wpOp
 simp only [ho, Region.wanted, hg, if_true]
 exact .inl (h w' hw _ fun a1 w1 h1 => .inl ⟨trivial, h1⟩)
theorem wpAnyG_done {listed : Array Bool} {a : Act} {w : World} (hr : Region.ready md ops listed = []) (h : ∀ w', G w w' → Q .normal a w') :
  ∀ fuel, wpAnyG P md ops Q G m fuel listed a w
 | 0 => ⟨hr, h⟩
 | _ + 1 => fun w' hg => ⟨fun _ => h w' hg, by rw [hr]; simp⟩
theorem wp_region_G {id : Nat} {a : Act} {w : World} (hm : P.follows .mixedOrders = true) (hr0 : ∀ a, G a a) (m : Nat)
  (h : wpAnyG P .any ops Q G m ops.size (Array.replicate ops.size false) a w.drew) : (Code.region id ops true).wp P Q a w :=
 wp_region_any hm (wpAny_of_G hr0 _ _ _ _ h)
/-- A row of operations, each of which yields one value in every grown world. -/
def TakeAll (P : Program) (ops : Array Oper) (G : World → World → Prop) (w : World) : List Oper → Act → (Act → Prop) → Prop
 | [], a, F => F a
 | o :: rest, a, F => ∃ v, YieldsG P ops G o v a w ∧ TakeAll P ops G w rest (a.put o.dst v) F
theorem TakeAll.nil {w : World} {a : Act} {F : Act → Prop} (h : F a) : TakeAll P ops G w [] a F := h
theorem TakeAll.pure {w : World} {o : Oper} {rest : List Oper} {a : Act} {F : Act → Prop} {v : Value} (hw : Region.wanted o (yielded ops a.tmps) = true) (h : ∀ w', G w w' → (execOp a.eval o).run P w' = .ok (.value v) w')
  (k : TakeAll P ops G w rest (a.put o.dst v) F) : TakeAll P ops G w (o :: rest) a F := ⟨v, .pure hw h, k⟩
theorem TakeAll.skip {w : World} {o : Oper} {rest : List Oper} {a : Act} {F : Act → Prop} (hw : Region.wanted o (yielded ops a.tmps) = false)
  (k : TakeAll P ops G w rest (a.put o.dst undef) F) : TakeAll P ops G w (o :: rest) a F := ⟨undef, .skip hw, k⟩
theorem TakeAll.call {w : World} {o : Oper} {rest : List Oper} {a : Act} {F : Act → Prop} {v : Value} (hw : Region.wanted o (yielded ops a.tmps) = true) (f : FuncId) (args : Array Value)
  (hx : ∀ w', (execOp a.eval o).run P w' = .ok (.enter f args) w') (h : ∀ w', G w w' → Calls P f args w' fun e w1 => e = .returned v ∧ G w' w1)
  (k : TakeAll P ops G w rest (a.put o.dst v) F) : TakeAll P ops G w (o :: rest) a F := ⟨v, .call hw f args hx h, k⟩
theorem TakeAll.imp {w : World} {F F' : Act → Prop} (hF : ∀ a, F a → F' a) : ∀ {l : List Oper} {a : Act}, TakeAll P ops G w l a F → TakeAll P ops G w l a F'
 | [], _, h => hF _ h
 | _ :: _, _, ⟨v, hy, h⟩ => ⟨v, hy, TakeAll.imp hF h⟩
/-- The operations with these numbers. -/
def pickOps (ops : Array Oper) : List Nat → List Oper
 | [] => []
 | i :: is => match ops[i]? with
  | some o => o :: pickOps ops is
  | none => pickOps ops is
def setAll : Array Bool → List Nat → Array Bool
 | l, [] => l
 | l, i :: is => setAll (l.setIfInBounds i true) is
def mayTakes (md : Region.Mode) (ops : Array Oper) (m : Nat) : Array Bool → List Nat → Bool
 | _, [] => true
 | l, i :: is => mayTake md ops m l i && mayTakes md ops m (l.setIfInBounds i true) is
theorem wpAnyG_takes_aux (hr0 : ∀ a, G a a) (ht : ∀ a b c, G a b → G b c → G a c) (hQ : ∀ (d : Tmp) (v : Value) c a w, Q (.panic c) (a.put (some d) v) w → Q (.panic c) a w) {fuel : Nat} {w : World} :
  ∀ (is : List Nat) (listed : Array Bool) (a : Act), mayTakes md ops m listed is = true →
   TakeAll P ops G w (pickOps ops is) a (fun a' => wpAnyG P md ops Q G m fuel (setAll listed is) a' w) → wpAnyG P md ops Q G m (fuel + is.length) listed a w
 | [], _, _, _, h => h
 | i :: is, listed, a, hm, h => by
  simp only [mayTakes, Bool.and_eq_true] at hm
  cases ho : ops[i]? with
  | none =>
   have h1 := hm.1
   simp [mayTake, Region.free, ho] at h1
  | some o =>
   simp only [pickOps, ho] at h
   obtain ⟨v, hy, h⟩ := h
   exact wpAnyG_take hr0 ht ho hm.1 (by cases o.dst with | none => exact fun _ _ _ h => h | some d => exact hQ d v) hy (wpAnyG_takes_aux hr0 ht hQ is _ _ hm.2 h)
theorem wpAnyG_takes (hr0 : ∀ a, G a a) (ht : ∀ a b c, G a b → G b c → G a c) (hQ : ∀ (d : Tmp) (v : Value) c a w, Q (.panic c) (a.put (some d) v) w → Q (.panic c) a w) {fuel fuel' : Nat} {w : World} {listed : Array Bool} {a : Act}
  (is : List Nat) (hf : fuel = fuel' + is.length) (hm : mayTakes md ops m listed is = true) {l : List Oper} (hl : pickOps ops is = l)
  (h : TakeAll P ops G w l a (fun a' => wpAnyG P md ops Q G m fuel' (setAll listed is) a' w)) : wpAnyG P md ops Q G m fuel listed a w := by
 subst hf hl
 exact wpAnyG_takes_aux hr0 ht hQ is listed a hm h
def allMay (md : Region.Mode) (ops : Array Oper) : Bool := mayTakes md ops ops.size (Array.replicate ops.size false) (List.range ops.size) && (Region.ready md ops (setAll (Array.replicate ops.size false) (List.range ops.size))).isEmpty
theorem pickOps_drop (ops : Array Oper) : ∀ n k, n + k = ops.size → pickOps ops (List.range' k n) = ops.toList.drop k
 | 0, k, h => by
  have : ops.toList.length ≤ k := by simp; omega
  simp [pickOps, List.drop_eq_nil_of_le this]
 | n + 1, k, h => by
  have hk : k < ops.size := by omega
  simp only [List.range'_succ, pickOps, Array.getElem?_eq_getElem hk]
  rw [pickOps_drop ops n (k + 1) (by omega)]
  rw [List.drop_eq_getElem_cons (i := k) (by simpa using hk)]
  simp
theorem pickOps_all (ops : Array Oper) : pickOps ops (List.range ops.size) = ops.toList := by
 rw [List.range_eq_range', pickOps_drop ops ops.size 0 (by omega), List.drop_zero]
/-- A drawn region all of whose operations yield one value in every grown world: one walk, in the text's order. -/
theorem wp_region_seq {id : Nat} {l : List Oper} {a : Act} {w : World} (hm : P.follows .mixedOrders = true) (hr0 : ∀ a, G a a) (ht : ∀ a b c, G a b → G b c → G a c)
  (hQ : ∀ (d : Tmp) (v : Value) c a w, Q (.panic c) (a.put (some d) v) w → Q (.panic c) a w) (hok : allMay .any l.toArray = true)
  (h : TakeAll P l.toArray G w.drew l a (fun a' => ∀ w', G w.drew w' → Q .normal a' w')) : (Code.region id l.toArray true).wp P Q a w := by
 simp only [allMay, Bool.and_eq_true, List.isEmpty_iff] at hok
 refine wp_region_G hm hr0 l.toArray.size ?_
 refine wpAnyG_takes hr0 ht hQ (fuel' := 0) (List.range l.toArray.size) (by simp) hok.1 (by rw [pickOps_all]) ?_
 exact h.imp fun a' h' => ⟨hok.2, h'⟩
/-- One operation alone may come up; the operation written out. -/
theorem wpAnyG_step {i : Nat} {o : Oper} {fuel fuel' : Nat} {listed : Array Bool} {a : Act} {w : World} (hr : Region.ready md ops listed = [i]) (hf : fuel = fuel' + 1) (ho : pickOps ops [i] = [o]) (hg : o.guard = none)
  (h : ∀ w', G w w' → ∀ K : Act → World → Prop, (∀ a1 w1, G w' w1 → wpAnyG P md ops Q G m fuel' (listed.setIfInBounds i true) a1 w1 → K a1 w1) → o.wp P a w' K Q) : wpAnyG P md ops Q G m fuel listed a w := by
 subst hf
 refine wpAnyG_one hr (o := o) ?_ hg h
 unfold pickOps at ho
 split at ho
 ·rename_i o' h'; simp [pickOps] at ho; rw [h', ho]
 ·simp [pickOps] at ho
/-- Operation m, written out: nothing is asked of the world behind it. -/
theorem wpAnyG_end {o : Oper} {fuel fuel' : Nat} {listed : Array Bool} {a : Act} {w : World} (hr : Region.ready md ops listed = [m]) (hf : fuel = fuel' + 1) (ho : pickOps ops [m] = [o]) (hg : o.guard = none)
  (h : ∀ w', G w w' → ∀ K : Act → World → Prop, (∀ a1 w1, wpAny P md ops Q fuel' (listed.setIfInBounds m true) a1 w1 → K a1 w1) → o.wp P a w' K Q) : wpAnyG P md ops Q G m fuel listed a w := by
 subst hf
 refine wpAnyG_last hr (o := o) ?_ hg h
 unfold pickOps at ho
 split at ho
 ·rename_i o' h'; simp [pickOps] at ho; rw [h', ho]
 ·simp [pickOps] at ho
/-- What is left behind operation m only turns temporaries. -/
theorem wpAny_rest (hQ : ∀ (d : Tmp) (v : Value) c a w, Q (.panic c) (a.put (some d) v) w → Q (.panic c) a w) {fuel : Nat} {w : World} {listed : Array Bool} {a : Act}
  (is : List Nat) (hf : fuel = is.length) (hm : mayTakes md ops ops.size listed is = true) (hr : Region.ready md ops (setAll listed is) = []) {l : List Oper} (hl : pickOps ops is = l)
  (h : TakeAll P ops Eq w l a (fun a' => Q .normal a' w)) : wpAny P md ops Q fuel listed a w := by
 refine wpAny_of_G (G := Eq) (m := ops.size) (fun _ => rfl) fuel listed a w ?_
 refine wpAnyG_takes (fun _ => rfl) (fun _ _ _ h1 h2 => h1.trans h2) hQ is (fuel' := 0) (by omega) hm hl ?_
 exact h.imp fun a' h' => ⟨hr, fun w' e => e ▸ h'⟩
theorem pick_one {i : Nat} {o : Oper} (ho : pickOps ops [i] = [o]) : ops[i]? = some o := by
 unfold pickOps at ho
 split at ho
 ·rename_i o' h'; simp [pickOps] at ho; rw [h', ho]
 ·simp [pickOps] at ho
/-- A call by its contract. -/
theorem wp_call {o : Oper} {a : Act} {w : World} {K : Act → World → Prop} (f : FuncId) (args : Array Value) (hx : (execOp a.eval o).run P w = .ok (.enter f args) w)
  (h : Calls P f args w fun e w1 => ∃ v, e = .returned v ∧ K (a.put o.dst v) w1) : o.wp P a w K Q := by
 unfold Oper.wp
 rw [hx]
 simp only [Oper.upon]
 refine h.mono ?_
 rintro e w1 ⟨v, rfl, hk⟩
 exact hk
end
end WageReg
namespace WageReg
open Go
variable {P : Program} {ops : Array Oper} {Q : Exit → Act → World → Prop} {md : Region.Mode} {G : World → World → Prop} {m : Nat}
/-- One operation alone may come up, and it is wanted. -/
theorem wpAnyG_stepW {i : Nat} {o : Oper} {fuel fuel' : Nat} {listed : Array Bool} {a : Act} {w : World} (hr : Region.ready md ops listed = [i]) (hf : fuel = fuel' + 1) (ho : pickOps ops [i] = [o]) (hw : Region.wanted o (yielded ops a.tmps) = true)
  (h : ∀ w', G w w' → ∀ K : Act → World → Prop, (∀ a1 w1, G w' w1 → wpAnyG P md ops Q G m fuel' (listed.setIfInBounds i true) a1 w1 → K a1 w1) → o.wp P a w' K Q) : wpAnyG P md ops Q G m fuel listed a w := by
 subst hf
 refine wpAnyG_all hr (by simp) fun w' hw' j hj => ?_
 obtain rfl : j = i := by simpa using hj
 unfold wpOp
 simp only [pick_one ho, hw, if_true]
 exact .inl (h w' hw' _ fun a1 w1 h1 h2 => .inr ⟨h1, h2⟩)
end WageReg
namespace WageReg
open Go
section
variable {P : Program} {ops : Array Oper} {Q : Exit → Act → World → Prop} {md : Region.Mode} {G : World → World → Prop}
/-- Whatever order is picked, and whatever is made in memory between two operations; from the operations F on the rest goes by 'wpAny'. -/
def wpAnyF (P : Program) (md : Region.Mode) (ops : Array Oper) (Q : Exit → Act → World → Prop) (G : World → World → Prop) (F : List Nat) : Nat → Array Bool → Act → World → Prop
 | 0, listed, a, w => Region.ready md ops listed = [] ∧ ∀ w', G w w' → Q .normal a w'
 | fuel + 1, listed, a, w => ∀ w', G w w' →
  (Region.ready md ops listed = [] → Q .normal a w') ∧
  ∀ i ∈ Region.ready md ops listed, wpOp P ops Q i (fun a1 w1 => (i ∈ F ∧ wpAny P md ops Q fuel (listed.setIfInBounds i true) a1 w1) ∨
   (G w' w1 ∧ wpAnyF P md ops Q G F fuel (listed.setIfInBounds i true) a1 w1)) a w'
variable {F : List Nat}
theorem wpAnyF.mono (ht : ∀ a b c, G a b → G b c → G a c) {a : Act} {w w1 : World} (hg : G w w1) : ∀ {fuel : Nat} {listed : Array Bool}, wpAnyF P md ops Q G F fuel listed a w → wpAnyF P md ops Q G F fuel listed a w1
 | 0, _, h => ⟨h.1, fun w' h' => h.2 w' (ht _ _ _ hg h')⟩
 | _ + 1, _, h => fun w' h' => h w' (ht _ _ _ hg h')
end
end WageReg
namespace WageReg
open Go
section
variable {P : Program} {ops : Array Oper} {Q : Exit → Act → World → Prop} {md : Region.Mode} {S : World → Prop}
/-- A row of operations, each of which yields one value in every world that meets S and leaves it alone. -/
def TakeP (P : Program) (ops : Array Oper) (S : World → Prop) : List Oper → Act → (Act → Prop) → Prop
 | [], a, F => F a
 | o :: rest, a, F => ∃ v, YieldsIf P ops S o v a ∧ TakeP P ops S rest (a.put o.dst v) F
theorem TakeP.nil {a : Act} {F : Act → Prop} (h : F a) : TakeP P ops S [] a F := h
theorem TakeP.pure {o : Oper} {rest : List Oper} {a : Act} {F : Act → Prop} {v : Value} (hw : Region.wanted o (yielded ops a.tmps) = true) (h : ∀ w', S w' → (execOp a.eval o).run P w' = .ok (.value v) w')
  (k : TakeP P ops S rest (a.put o.dst v) F) : TakeP P ops S (o :: rest) a F := ⟨v, .inl ⟨hw, h⟩, k⟩
theorem TakeP.skip {o : Oper} {rest : List Oper} {a : Act} {F : Act → Prop} (hw : Region.wanted o (yielded ops a.tmps) = false)
  (k : TakeP P ops S rest (a.put o.dst undef) F) : TakeP P ops S (o :: rest) a F := ⟨undef, .inr ⟨hw, rfl⟩, k⟩
def mayTakesH (md : Region.Mode) (ops : Array Oper) : Array Bool → List Nat → Bool
 | _, [] => true
 | l, i :: is => Region.noSelect ops && Region.free md ops l i && (Region.ready md ops l).contains i && mayTakesH md ops (l.setIfInBounds i true) is
theorem wpAnyH_takes_aux (hQ : ∀ (d : Tmp) (v : Value) c a w, Q (.panic c) (a.put (some d) v) w → Q (.panic c) a w) {fuel : Nat} {w : World} (hS : S w) :
  ∀ (is : List Nat) (listed : Array Bool) (a : Act), mayTakesH md ops listed is = true →
   TakeP P ops S (pickOps ops is) a (fun a' => wpAnyH P md ops Q S fuel (setAll listed is) a' w) → wpAnyH P md ops Q S (fuel + is.length) listed a w
 | [], _, _, _, h => h
 | i :: is, listed, a, hm, h => by
  simp only [mayTakesH, Bool.and_eq_true] at hm
  obtain ⟨⟨⟨hs, hf⟩, hr⟩, hm2⟩ := hm
  cases ho : ops[i]? with
  | none => simp [Region.free, ho] at hf
  | some o =>
   simp only [pickOps, ho] at h
   obtain ⟨v, hy, h⟩ := h
   exact wpAnyH_take ho hs hf hr (by cases o.dst with | none => exact fun _ _ _ h => h | some d => exact hQ d v) hy hS (wpAnyH_takes_aux hQ hS is _ _ hm2 h)
theorem wpAnyH_takes (hQ : ∀ (d : Tmp) (v : Value) c a w, Q (.panic c) (a.put (some d) v) w → Q (.panic c) a w) {fuel fuel' : Nat} {w : World} {listed : Array Bool} {a : Act} (hS : S w)
  (is : List Nat) (hf : fuel = fuel' + is.length) (hm : mayTakesH md ops listed is = true) {l : List Oper} (hl : pickOps ops is = l)
  (h : TakeP P ops S l a (fun a' => wpAnyH P md ops Q S fuel' (setAll listed is) a' w)) : wpAnyH P md ops Q S fuel listed a w := by
 subst hf hl
 exact wpAnyH_takes_aux hQ hS is listed a hm h
theorem wp_region_H {id : Nat} {a : Act} {w : World} (hm : P.follows .mixedOrders = true) (S : World → Prop)
  (h : wpAnyH P .any ops Q S ops.size (Array.replicate ops.size false) a w.drew) : (Code.region id ops true).wp P Q a w := wp_region_held hm h
theorem wpAnyH_step {i : Nat} {o : Oper} {fuel fuel' : Nat} {listed : Array Bool} {a : Act} {w : World} (hr : Region.ready md ops listed = [i]) (hf : fuel = fuel' + 1) (ho : pickOps ops [i] = [o]) (hw : Region.wanted o (yielded ops a.tmps) = true)
  (h : ∀ K : Act → World → Prop, (∀ a1 w1, S w1 → wpAnyH P md ops Q S fuel' (listed.setIfInBounds i true) a1 w1 → K a1 w1) → o.wp P a w K Q) : wpAnyH P md ops Q S fuel listed a w := by
 subst hf
 refine wpAnyH_all hr (by simp) fun j hj => ?_
 obtain rfl : j = i := by simpa using hj
 unfold wpOp
 simp only [pick_one ho, hw, if_true]
 exact .inl (h _ fun a1 w1 h1 h2 => ⟨h1, h2⟩)
theorem wpAnyH_two {i j : Nat} {o1 o2 : Oper} {fuel fuel' : Nat} {listed : Array Bool} {a : Act} {w : World} (hr : Region.ready md ops listed = [i, j]) (hf : fuel = fuel' + 1) (ho1 : pickOps ops [i] = [o1]) (hg1 : o1.guard = none) (ho2 : pickOps ops [j] = [o2]) (hg2 : o2.guard = none)
  (h1 : ∀ K : Act → World → Prop, (∀ a1 w1, S w1 → wpAnyH P md ops Q S fuel' (listed.setIfInBounds i true) a1 w1 → K a1 w1) → o1.wp P a w K Q)
  (h2 : ∀ K : Act → World → Prop, (∀ a1 w1, S w1 → wpAnyH P md ops Q S fuel' (listed.setIfInBounds j true) a1 w1 → K a1 w1) → o2.wp P a w K Q) : wpAnyH P md ops Q S fuel listed a w := by
 subst hf
 refine wpAnyH_all hr (by simp) fun k hk => ?_
 simp only [List.mem_cons, List.not_mem_nil, or_false] at hk
 unfold wpOp
 rcases hk with rfl | rfl
 ·simp only [pick_one ho1, Region.wanted, hg1, if_true]
  exact .inl (h1 _ fun a1 w1 h1 h2 => ⟨h1, h2⟩)
 ·simp only [pick_one ho2, Region.wanted, hg2, if_true]
  exact .inl (h2 _ fun a1 w1 h1 h2 => ⟨h1, h2⟩)
end
end WageReg
namespace WageReg
open Go
section
variable {P : Program} {ops : Array Oper} {G : World → World → Prop} {Q : Exit → Act → World → Prop}
end
end WageReg
namespace Go
open Go.RowKit
/-- What an iterator promises: it yields some elements, one after the other; between two rounds it changes the world only as 'Step' says; a round keeps what 'Kp' says. -/
def IterRunsV {α : Type} (F : Fence) (n : Nat) (P : Program) (gf : Nat) (lb : Array Value) (encs : α → Array Value) (Step Kp : World → World → Prop) (S : List α → Prop) (V : α → Prop) (N : Nat) (W : World) : Prop :=
 ∀ (l : Nat) (J : List α → World → Prop), (∀ s A B, J s A → Step A B → J s B) →
  (∀ pre x W1, J pre W1 → V x → pre.length < N → YieldAt F (n - 1) P l (encs x) W1 fun e W' => e = .returned (.bool true) ∧ J (pre ++ [x]) W' ∧ Kp W1 W') →
  J [] W → CallsIn F n P gf (#[.func (.yield l) #[] #[]] ++ lb) W fun e W' => (∃ v, e = .returned v) ∧ ∃ xs, S xs ∧ J xs W'
/-- How the body of a round is left: at its end. -/
def goesOnV {α : Type} (B : Nat) (Kp : World → World → Prop) (I : List α → World → Prop) (xs : List α) (W : World) : Exit → Act → World → Prop
 | .normal, _, W' => KeepsFrom B W W' ∧ Kp W W' ∧ I xs W'
 | _, _, _ => False
variable {F : Fence} {n : Nat} {P : Program}
end Go
namespace WageReg
open Go
/-- The value of an operation's guard. -/
def gvalB (ops : Array Oper) (o : Oper) (tmps : Array Value) : Bool := match o.guard with
 | none => true
 | some (j, _) => match ((ops[j]?).bind (·.dst)).bind (tmps[·]?) with
  | some (.bool b) => b
  | _ => false
section
variable {P : Program} {ops : Array Oper} {G : World → World → Prop}
theorem TakeAll.part {w : World} {o : Oper} {rest : List Oper} {a : Act} {F : Act → Prop} (h1 : gvalB ops o a.tmps = true → TakeAll P ops G w (o :: rest) a F)
  (h0 : gvalB ops o a.tmps = false → TakeAll P ops G w (o :: rest) a F) : TakeAll P ops G w (o :: rest) a F := by
 cases h : gvalB ops o a.tmps
 ·exact h0 h
 ·exact h1 h
end
end WageReg
namespace Go
open Go.RowKit
variable {F : Fence} {n : Nat} {P : Program}
theorem wpIn_rangeFunc_goesOnY {α : Type} {g : Operand} {ps : Array Tmp} {assign body : Code} {Q : Exit → Act → World → Prop} {a : Act} {w : World}
  (hro : F.round = none) (h1 : 1 ≤ n) {gf : Nat} {lb : Array Value} (hg : a.eval g = .func (.func gf) #[] lb) (hFg : F.fn gf) (eg : ∀ args w, (callFunc gf args).run P w = .ok (.enter gf args) w)
  {encs : α → Array Value} {Step Kp : World → World → Prop} {S : List α → Prop} {V : α → Prop} {N : Nat} (hps : ∀ x, (encs x).size = ps.size)
  (hseq : ∀ o1 o2 : Obj, IterRunsV F (n - 1) P gf lb encs Step Kp S V N ((w.alloc o1).alloc o2))
  (hKt : ∀ A B C : World, Kp A B → Kp B C → Kp A C) (hKb : ∀ (W : World) (o' : Obj), Kp W (W.putObj (w.heap.size + 1) o'))
  (hSt : ∀ A B, Step A B → ∀ (k : Nat) (o : Obj), w.heap.size ≤ k → A.heap[k]? = some o → B.heap[k]? = some o)
  (I : List α → World → Prop) (hIS : ∀ s A B, I s A → Step A B → I s B) (hIb : ∀ s (W : World) (o' : Obj), w.heap.size + 1 < W.heap.size → I s W → I s (W.putObj (w.heap.size + 1) o')) (h0 : ∀ o1 o2 : Obj, I [] ((w.alloc o1).alloc o2)) (hround : ∀ (l : Nat) (pre : List α) (x : α) (W : World), I pre W → w.heap.size + 1 < W.heap.size → V x → pre.length < N →
   assign.wpIn (F.inRound l) (n - 1 - 1) P (Exit.then (fun a' W' => (∀ (k : Nat) (o : Obj), w.heap.size ≤ k → W.heap[k]? = some o → W'.heap[k]? = some o) ∧ Kp W W' ∧
    ∀ o' : Obj, body.wpIn (F.inRound l) (n - 1 - 1) P (goesOnV w.heap.size Kp I (pre ++ [x]) (W'.putObj (w.heap.size + 1) o')) a' (W'.putObj (w.heap.size + 1) o')) (fun _ _ _ => False))
    { tmps := (ps.zip (encs x)).foldl (fun t (p, v) => t.setIfInBounds p v) a.tmps, defers := [] } W)
  (hdone : ∀ (xs : List α) (W : World), S xs → I xs W → W.heap[w.heap.size]? = some (.deferred (some [])) → Q .normal { a with defers := { target := .collected w.heap.size, args := #[] } :: a.defers } W) :
  (Code.rangeFunc g ps assign body).wpIn F n P Q a w := by
 refine wpIn_rangeFunc fun fn hfn => ?_
 rw [hro]
 let L : LoopState → Loop := fun st => { state := st, pending := none, fn, tmps := a.tmps, params := ps, assign, body, defers := w.heap.size }
 have hd : ((w.alloc (.deferred (some []))).alloc (.loop (L .ready))).heap[w.heap.size]? = some (.deferred (some [])) :=
  (Below.heap_alloc _ _ _ (by simp)).trans (World.alloc_heap_new w _)
 have hl : ((w.alloc (.deferred (some []))).alloc (.loop (L .ready))).heap[w.heap.size + 1]? = some (.loop (L .ready)) := by
  have := World.alloc_heap_new (w.alloc (.deferred (some []))) (.loop (L .ready)); rwa [World.size_alloc] at this
 obtain ⟨W1, hW1⟩ : ∃ W1, W1 = (w.alloc (.deferred (some []))).alloc (.loop (L .ready)) := ⟨_, rfl⟩
 rw [← hW1] at hd hl
 refine ⟨w.heap.size + 1, [{ target := .collected w.heap.size, args := #[] }], W1, { target := .fn (.func gf) lb, args := #[.func (.yield (w.heap.size + 1)) #[] #[]] }, W1, gf,
  #[.func (.yield (w.heap.size + 1)) #[] #[]] ++ lb, W1, ?_, ?_, ?_, ?_, fun _ => h1, ?_⟩
 ·rw [hW1]; exact run_enterLoop_outer _ _ _ _ _
 ·simp only [resolve, hg]
  simp [go_sem]
 ·intro f' hf'; simp [Target.leads] at hf'; subst hf'; exact hFg
 ·simp [invoke, go_sem, eg]
 have hq1 := hseq (.deferred (some [])) (.loop (L .ready))
 have h01 := h0 (.deferred (some [])) (.loop (L .ready))
 rw [← hW1] at hq1 h01
 refine (hq1 (w.heap.size + 1) (fun pre W => I pre W ∧ W.heap[w.heap.size + 1]? = some (.loop (L .ready)) ∧ W.heap[w.heap.size]? = some (.deferred (some []))) ?_ ?_ ⟨h01, hl, hd⟩).mono ?_
 ·rintro s A B ⟨hi, h2, h3⟩ hs
  exact ⟨hIS s A B hi hs, hSt A B hs _ _ (by omega) h2, hSt A B hs _ _ (by omega) h3⟩
 ·rintro pre x W ⟨hi, h2, h3⟩ hvx hlen
  have hlt : w.heap.size + 1 < W.heap.size := (Array.getElem?_eq_some_iff.1 h2).1
  have hy := run_yield (P := P) (args := encs x) h2 (hps x)
  refine ⟨fn, _, assign, body, hy, roundIn_of_wpIn hfn (wpIn_mono (hround _ pre x W hi hlt hvx hlen) ?_)⟩
  rintro ex a1 W1' hp1
  cases ex with
  | normal => ?_
  | ret => exact hp1
  | exit id => exact hp1
  | goto t => exact hp1
  | panic ch => exact hp1
  | outgrown => exact hp1
  obtain ⟨hsame, hkp1, hbd⟩ := hp1
  have h2c := hsame _ _ (by omega) h2
  have h3c := hsame _ _ (Nat.le_refl _) h3
  refine ⟨_, run_beginRound h2c rfl, ?_⟩
  have hltc : w.heap.size + 1 < W1'.heap.size := (Array.getElem?_eq_some_iff.1 h2c).1
  have h2' : (W1'.putObj (w.heap.size + 1) (.loop (L .busy))).heap[w.heap.size + 1]? = some (.loop (L .busy)) := World.putObj_heap_same hltc
  have h3' : (W1'.putObj (w.heap.size + 1) (.loop (L .busy))).heap[w.heap.size]? = some (.deferred (some [])) := (World.putObj_heap_other (by omega)).trans h3c
  refine wpIn_mono (hbd _) ?_
  rintro e a3 W3 hp
  cases e with
  | normal =>
   obtain ⟨hk3, hkp3, hi3⟩ := hp
   have h4 := hk3.same _ _ (by omega) h2' rfl
   have h5 := hk3.same _ _ (Nat.le_refl _) h3' rfl
   have hlt3 := (Array.getElem?_eq_some_iff.1 h4).1
   exact ⟨_, _, run_endRound (P := P) none h4, rfl, ⟨hIb _ _ _ hlt3 hi3, World.putObj_heap_same hlt3, (World.putObj_heap_other (by omega)).trans h5⟩,
    hKt _ _ _ hkp1 (hKt _ _ _ (hKb _ _) (hKt _ _ _ hkp3 (hKb _ _)))⟩
  | ret => exact hp.elim
  | exit id => exact hp.elim
  | goto t => exact hp.elim
  | panic ch => exact hp.elim
  | outgrown => exact hp.elim
 ·rintro e W2 ⟨⟨v, rfl⟩, xs, hS, hi, h2, h3⟩
  have hlt3 := (Array.getElem?_eq_some_iff.1 h2).1
  exact ⟨none, _, run_endLoop (P := P) h2 (by simp [L]), hdone xs _ hS (hIb _ _ _ hlt3 hi) ((World.putObj_heap_other (by omega)).trans h3)⟩
end Go
namespace WageMem
open Go Go.RowKit
/-- Whole blocks that stay. -/
def KeepB (G : Nat → Prop) (A B : World) : Prop := A.heap.size ≤ B.heap.size ∧ ∀ (k : Nat) (o : Obj), G k → A.heap[k]? = some o → B.heap[k]? = some o
theorem KeepB.trans {G : Nat → Prop} {A B C : World} (h : KeepB G A B) (k : KeepB G B C) : KeepB G A C := ⟨Nat.le_trans h.1 k.1, fun i o hi ho => k.2 i o hi (h.2 i o hi ho)⟩
theorem KeepB.refl {G : Nat → Prop} (A : World) : KeepB G A A := ⟨Nat.le_refl _, fun _ _ _ h => h⟩
theorem KeepB.put {G : Nat → Prop} (W : World) {l : Nat} (o' : Obj) (hl : ¬ G l) : KeepB G W (W.putObj l o') :=
 ⟨by simp [World.putObj], fun k o hk ho => (World.putObj_heap_other (by rintro rfl; exact hl hk)).trans ho⟩
theorem KeepB.grew {G : Nat → Prop} {A B : World} (h : Grew A B) : KeepB G A B := ⟨h.le, fun _ _ _ ho => h.block ho⟩
theorem KeepB.cell {G : Nat → Prop} {A B : World} (h : KeepB G A B) {p : Addr} {v : Value} (hp : G p.block) (hc : A.cell? p = some v) : B.cell? p = some v := by
 obtain ⟨o, ho, _⟩ := cells_of_cell hc
 exact (World.cell?_of_block ((h.2 _ _ hp ho).trans ho.symm)).trans hc
theorem KeepB.set {G : Nat → Prop} (W : World) {b : Nat} (v : Value) (hp : ¬ G b) : KeepB G W (W.setCell ⟨b, 0, none⟩ v) :=
 ⟨by simp [World.setCell], fun k o hk ho => by
  have := (grownBy_setCell' W b v).block k (Array.getElem?_eq_some_iff.1 ho).1 (by rintro h; injection h with h; subst h; exact hp hk)
  rw [this, ho]⟩
theorem KeepB.boxed {G : Nat → Prop} {A B : World} (h : KeepB G A B) {k : Nat} {t : TypeId} {v : Value} (hk : G k) (hb : Boxed A k t v) : Boxed B k t v := h.2 _ _ hk hb
theorem KeepB.sl {G : Nat → Prop} {W W' : World} {size : Nat} {A : Option Addr} {n c : Nat} {xs : List Value} (h : Sl W size A n c xs) (k : KeepB G W W') (hG : ∀ b o, A = some ⟨b, o, none⟩ → 0 < n → G b) : Sl W' size A n c xs := by
 refine ⟨h.1, h.2.1, h.2.2.1, fun hx => ?_, h.2.2.2.2⟩
 obtain ⟨b, o, e, hc⟩ := h.2.2.2.1 hx
 have hn : 0 < n := by
  rcases Nat.eq_zero_or_pos n with h0 | h0
  ·exfalso
   have := h.2.2.1
   rw [h0, Nat.zero_mul] at this
   exact hx (List.eq_nil_of_length_eq_zero this)
  ·exact h0
 exact ⟨b, o, e, fun j u hu => k.cell (hG b o e hn) (hc j u hu)⟩
/-- Between two rounds an iterator changes one block of its own, and makes memory. -/
def StepZ (bf : Nat) (A B : World) : Prop := Below bf A B ∧ ∀ (k : Nat) (o : Obj), k ≠ bf → A.heap[k]? = some o → B.heap[k]? = some o
theorem StepZ.refl (bf : Nat) (A : World) : StepZ bf A A := ⟨Below.refl _ _, fun _ _ _ h => h⟩
theorem StepZ.trans {bf : Nat} {A B C : World} (h : StepZ bf A B) (k : StepZ bf B C) : StepZ bf A C := ⟨h.1.trans k.1, fun i o hi ho => k.2 i o hi (h.2 i o hi ho)⟩
theorem StepZ.grew {bf : Nat} {A B : World} (h : Grew A B) (hb : bf ≤ A.heap.size) : StepZ bf A B := ⟨Below.mono h hb, fun _ _ _ ho => h.block ho⟩
theorem StepZ.set {bf : Nat} (W : World) (v : Value) : StepZ bf W (W.setCell ⟨bf, 0, none⟩ v) :=
 ⟨(Below.refl bf W).setCell (p := ⟨bf, 0, none⟩) (Nat.le_refl _) v, fun k o hk ho => by
  have := (grownBy_setCell' W bf v).block k (Array.getElem?_eq_some_iff.1 ho).1 (by rintro h; injection h with h; exact hk h)
  rw [this, ho]⟩
theorem StepZ.cell {bf : Nat} {A B : World} (h : StepZ bf A B) {p : Addr} {v : Value} (hp : p.block ≠ bf) (hc : A.cell? p = some v) : B.cell? p = some v := by
 obtain ⟨o, ho, _⟩ := cells_of_cell hc
 exact (World.cell?_of_block ((h.2 _ _ hp ho).trans ho.symm)).trans hc
theorem Grew.step {w A B : World} {bf : Nat} (g : Grew w A) (h : StepZ bf A B) (hb : w.heap.size ≤ bf) : Grew w B := Below.trans g (Below.mono h.1 hb)
end WageMem
namespace Go
open WageReg
section
variable {P : Program} {ops : Array Oper} {Q : Exit → Act → World → Prop} {md : Region.Mode} {l n : Nat}
def isDefer : Op → Bool
 | .defer _ => true
 | _ => false
theorem rowsIn_of_rows {row : String} {args : Array Value} {w : World} {R : Value → World → Prop} (h : Rows P row args w R) : RowsIn (Fence.wide.inRound l) n P row args w R :=
 fun c cs _ => let ⟨v, w', r, s⟩ := h c cs; ⟨v, w', r, by rw [show Machine.fenced P (Fence.wide.inRound l) = Machine.fenced P Fence.wide from fenced_inRound P Fence.wide l]; exact stepsIn_wide.2 s⟩
theorem wp_round {o : Oper} (hd : isDefer o.op = false) {a : Act} {w : World} {K : Act → World → Prop} (h : o.wp P a w K Q) : o.wpIn (Fence.wide.inRound l) n P a w K Q := by
 refine ⟨fun _ _ => trivial, ?_⟩
 rw [Oper.semAt_eq _ _ _ (fun c hc => by rw [hc] at hd; cases hd)]
 unfold Oper.wp at h
 generalize (execOp a.eval o).run P w = r at *
 cases r with
 | ok x w' =>
  cases x with
  | value v => exact h
  | skip => exact h
  | defer d => exact h
  | enter f args => exact ⟨(fun h => by cases h), CallsIn.inRound l (callsIn_wide.2 (Calls.mono h (fun e w'' he => by cases e <;> exact he)))⟩
  | row row args => exact ⟨(fun h => by cases h), rowsIn_of_rows h⟩
  | _ => exact h.elim
 | halt x w' => cases x <;> exact h
theorem wpOp_round {i : Nat} (hd : ops.all (fun o => !isDefer o.op) = true) (hL : ¬ LetsOut Q) {K : Act → World → Prop} {a : Act} {w : World} (h : wpOp P ops Q i K a w) : wpOpIn (Fence.wide.inRound l) n P ops Q i K a w := by
 unfold wpOp at h
 unfold wpOpIn
 cases ho : ops[i]? with
 | none => rw [ho] at h; exact h
 | some o =>
  rw [ho] at h
  have hdo : isDefer o.op = false := by
   have := Array.all_eq_true_iff_forall_mem.1 hd o (Array.mem_of_getElem? ho)
   simpa using this
  dsimp only at h ⊢
  split
  ·rename_i hw
   rw [if_pos hw] at h
   rcases h with h | h
   ·exact wp_round hdo h
   ·exact absurd h.2 hL
  ·rename_i hw
   rw [if_neg hw] at h
   exact ⟨fun _ _ => trivial, h⟩
theorem wpAny_round (hd : ops.all (fun o => !isDefer o.op) = true) (hL : ¬ LetsOut Q) : ∀ (fuel : Nat) (listed : Array Bool) (a : Act) (w : World), wpAny P md ops Q fuel listed a w → wpAnyIn (Fence.wide.inRound l) n P md ops Q fuel listed a w
 | 0, _, _, _, h => h
 | fuel + 1, _, _, _, h => ⟨h.1, fun i hi => wpOpIn_mono (fun a' w' h' => wpAny_round hd hL fuel _ a' w' h') (wpOp_round hd hL (h.2 i hi))⟩
theorem wpIn_region_round {id : Nat} {a : Act} {w : World} (hm : P.follows .mixedOrders = true) (hd : ops.all (fun o => !isDefer o.op) = true) (hL : ¬ LetsOut Q)
  (h : wpAny P .any ops Q ops.size (Array.replicate ops.size false) a w.drew) : (Code.region id ops true).wpIn (Fence.wide.inRound l) n P Q a w := wpIn_region_any hm (wpAny_round hd hL _ _ _ _ h)
end
section
variable {P : Program} {Q : Exit → Act → World → Prop} {G : World → World → Prop} {l n : Nat}
theorem wpIn_region_seqR {id : Nat} {ol : List Oper} {a : Act} {w : World} (hm : P.follows .mixedOrders = true) (hd : ol.toArray.all (fun o => !isDefer o.op) = true) (hL : ¬ LetsOut Q) (hr0 : ∀ a, G a a) (ht : ∀ a b c, G a b → G b c → G a c)
  (hQ : ∀ (d : Tmp) (v : Value) c a w, Q (.panic c) (a.put (some d) v) w → Q (.panic c) a w) (hok : allMay .any ol.toArray = true)
  (h : TakeAll P ol.toArray G w.drew ol a (fun a' => ∀ w', G w.drew w' → Q .normal a' w')) : (Code.region id ol.toArray true).wpIn (Fence.wide.inRound l) n P Q a w := by
 simp only [allMay, Bool.and_eq_true, List.isEmpty_iff] at hok
 refine wpIn_region_round hm hd hL (wpAny_of_G hr0 (m := ol.toArray.size) _ _ _ _ ?_)
 refine wpAnyG_takes hr0 ht hQ (fuel' := 0) (List.range ol.toArray.size) (by simp) hok.1 (by rw [pickOps_all]) ?_
 exact h.imp fun a' h' => ⟨hok.2, h'⟩
theorem wpIn_region_GR {id : Nat} {ops : Array Oper} {a : Act} {w : World} (hm : P.follows .mixedOrders = true) (hd : ops.all (fun o => !isDefer o.op) = true) (hL : ¬ LetsOut Q) (hr0 : ∀ a, G a a) (m : Nat)
  (h : wpAnyG P .any ops Q G m ops.size (Array.replicate ops.size false) a w.drew) : (Code.region id ops true).wpIn (Fence.wide.inRound l) n P Q a w :=
 wpIn_region_round hm hd hL (wpAny_of_G hr0 _ _ _ _ h)
end
end Go
