/-
  More words for memory: parts of a slice; append onto a slice that is full.
-/
import Derived.Test.YtaocjobbfcfleaaMem
import Derived.Laws.Slices
namespace WageMem
open Go Go.RowKit

/-- Where the tail of a slice lies. -/
def tailA (A : Option Addr) (c q size : Nat) : Option Addr := if c = q then A else A.map (·.add (q * size))
theorem tailA_zero {A : Option Addr} {c size : Nat} : tailA A c 0 size = A := by
  unfold tailA
  split
  · rfl
  · cases A with
    | none => rfl
    | some a => simp [Addr.add]
theorem addr_add_plain (b o i : Nat) : (⟨b, o, none⟩ : Addr).add i = ⟨b, o + i, none⟩ := by
  unfold Addr.add
  split
  · rename_i h; subst h; rfl
  · rfl
theorem Sl.tail {w : World} {size : Nat} {A : Option Addr} {n c : Nat} {xs : List Value} (h : Sl w size A n c xs) {q : Nat} (hq : q ≤ n) : Sl w size (tailA A c q size) (n - q) (c - q) (xs.drop (q * size)) := by
  obtain ⟨h1, h2, h3, h4, h5⟩ := h
  refine ⟨by omega, by omega, by rw [List.length_drop, h3, Nat.sub_mul], ?_, ?_⟩
  · intro hne
    have hne' : xs ≠ [] := by rintro rfl; simp at hne
    obtain ⟨b, o, rfl, hc⟩ := h4 hne'
    have hlt : q * size < xs.length := by
      apply Classical.byContradiction
      intro hh
      exact hne (List.drop_eq_nil_of_le (by omega))
    have hqn : q < n := by rw [h3] at hlt; exact Nat.lt_of_mul_lt_mul_right hlt
    refine ⟨b, o + q * size, ?_, fun j u hu => ?_⟩
    · unfold tailA
      rw [if_neg (by omega)]
      simp [addr_add_plain]
    · rw [List.getElem?_drop] at hu
      have := hc _ u hu
      rw [Nat.add_assoc]; exact this
  · intro hA
    unfold tailA at hA
    split at hA
    · obtain ⟨h6, h7⟩ := h5 hA; omega
    · cases A with
      | none => obtain ⟨h6, h7⟩ := h5 rfl; omega
      | some a => simp at hA
theorem Sl.head {w : World} {size : Nat} {A : Option Addr} {n c : Nat} {xs : List Value} (h : Sl w size A n c xs) {q k : Nat} (hq : q ≤ n) (hk : q ≤ k) (hkc : k ≤ c) : Sl w size A q k (xs.take (q * size)) := by
  obtain ⟨h1, h2, h3, h4, h5⟩ := h
  refine ⟨hk, by omega, by rw [List.length_take, h3]; exact Nat.min_eq_left (Nat.mul_le_mul_right _ hq), ?_, fun hA => ?_⟩
  · intro hne
    have hne' : xs ≠ [] := by rintro rfl; simp at hne
    obtain ⟨b, o, rfl, hc⟩ := h4 hne'
    refine ⟨b, o, rfl, fun j u hu => hc j u ?_⟩
    rw [List.getElem?_take] at hu
    split at hu
    · exact hu
    · cases hu
  · obtain ⟨h6, h7⟩ := h5 hA; omega

section
variable {P : Program} (w : World)
theorem run_slice_tail (t : TypeId) (size : Nat) (ht : P.underlying t = some (.slice (P.elem t))) (hi : (Go.sizeOf (P.elem t)).run P w = .ok size w) (A : Option Addr) (n c q : Nat) (k : IntKind) (hq : q ≤ n) :
    (Instr.slice t (.slice A n c) (some (.int k q)) none none).run P w = .ok (.slice (tailA A c q size) (n - q) (c - q)) w := by
  rw [run_slice_l w t A n c ht k q (by omega) (by omega), hi]
  simp [sliced, tailA]
theorem run_slice_head (t : TypeId) (size : Nat) (ht : P.underlying t = some (.slice (P.elem t))) (hi : (Go.sizeOf (P.elem t)).run P w = .ok size w) (A : Option Addr) (n c q : Nat) (k : IntKind) (hq : q ≤ c) :
    (Instr.slice t (.slice A n c) none (some (.int k q)) none).run P w = .ok (.slice A q c) w := by
  rw [run_slice_h w t A n c ht k q (by omega) (by omega), hi]
  cases A with
  | none => simp [sliced]
  | some a => simp [sliced, Addr.add]
theorem run_slice_head3 (t : TypeId) (size : Nat) (ht : P.underlying t = some (.slice (P.elem t))) (hi : (Go.sizeOf (P.elem t)).run P w = .ok size w) (A : Option Addr) (n c q : Nat) (k k' : IntKind) (hq : q ≤ c) :
    (Instr.slice t (.slice A n c) none (some (.int k q)) (some (.int k' q))).run P w = .ok (.slice A q q) w := by
  simp only [Instr.slice, Sem.run_bind, run_underlying ht, Instr.sliceBounds, Sem.run_pure, Result.andThen]
  rw [run_sliceBound _ _ _ _ _ (by omega) (by omega)]
  dsimp only
  rw [run_sliceBound _ _ _ _ _ (by omega) (by omega)]
  simp only [hi, Int.toNat_natCast, Nat.zero_mul, Nat.sub_zero]
  cases A with
  | none => simp
  | some a => simp [Addr.add]

/-- append onto a slice that is full: a new row. -/
theorem run_append_full (t ty e : TypeId) (i : TypeInfo) (z : Value) (size bytes : Nat) (ht : P.underlying t = some (.slice e)) (hi : P.info? e = some i) (hz : i.zero = some z)
    (hsize : i.size = size) (hby : i.bytes = bytes) (hzs : z.cells.size = size) (hsz : 0 < size)
    (A : Option Addr) (n : Nat) (xs : List Value) (hs : Sl w size A n n xs)
    (B : Option Addr) (m c : Nat) (news : List Value) (hr : Sl w size B m c news) (hm : 0 < m)
    (h63 : n + m ≤ 1000000) (hbytes : bytes ≤ 1000000) :
    ∃ v' w', (Builtin.append_ #[t, t] ty #[.slice A n n, .slice B m c]).run P w = .ok v' w' ∧ w'.ownsRow w.heap.size e size v' (n + m) (xs ++ news) ∧ Grew w w' ∧ v'.ownBlock = some w.heap.size := by
  have hmb : (n + m) * bytes ≤ 1000000 * 1000000 := Nat.mul_le_mul h63 hbytes
  have hne : news ≠ [] := by
    intro h
    have := hr.2.2.1
    rw [h] at this
    have h0 : 0 < m * size := Nat.mul_pos hm hsz
    simp at this
    omega
  obtain ⟨b, o, rfl, hc⟩ := hr.2.2.2.1 hne
  have hnews : ∀ j u, news[j]? = some u → w.cell? ((⟨b, o, none⟩ : Addr).add j) = some u := fun j u hu => by rw [addr_add_plain]; exact hc j u hu
  have hml : n + m ≤ maxLen := by unfold maxLen; omega
  have hlen : (xs ++ news).length = (n + m) * size := by rw [List.length_append, hs.2.2.1, hr.2.2.1, Nat.add_mul]
  subst hsize
  subst hby
  have grown : (w.drew.alloc (.cells (xs.toArray ++ news.toArray ++ Builtin.zeroCells z.cells (grownCap w (n + m) n e - (n + m))) e)).ownsRow w.heap.size e i.size
        (.slice (some ⟨w.heap.size, 0, none⟩) (n + m) (grownCap w (n + m) n e)) (n + m) (xs ++ news) := by
    have hge := grownCap_ge w (n + m) n e
    have hcm : grownCap w (n + m) n e ≤ maxLen := grownCap_le_maxLen w (n + m) n e hml
    refine ⟨hlen, .inr ⟨w.heap.size, _, _, rfl, Nat.le_refl _, heap_alloc_new w.drew _, hge, hcm, ?_, ?_⟩⟩
    · simp only [Array.size_append, List.size_toArray, size_zeroCells, hzs, hs.2.2.1, hr.2.2.1, ← Nat.add_mul]
      congr 1
      omega
    · simp only [Array.toList_append, List.append_assoc]
      rw [← List.append_assoc, ← hlen]
      exact List.take_left
  cases A with
  | none =>
    obtain ⟨rfl, _⟩ := hs.2.2.2.2 rfl
    have hx : xs = [] := List.eq_nil_of_length_eq_zero (by simpa using hs.2.2.1)
    subst hx
    have hrun := run_append_nil (P := P) w t ty e i z ht hi hz ⟨b, o, none⟩ m c news hr.2.2.1 hnews hm (by omega) (by simp only [Nat.zero_add] at hmb; omega)
    simp only [Nat.zero_add, List.nil_append, Array.empty_append] at grown ⊢
    exact ⟨_, _, hrun, grown, (Grew.refl w).drew.alloc _, rfl⟩
  | some ad =>
    have holds : ∀ j u, xs[j]? = some u → w.cell? (ad.add j) = some u := fun j u hu => by
      have hxne : xs ≠ [] := by rintro rfl; simp at hu
      obtain ⟨b', o', e', hc'⟩ := hs.2.2.2.1 hxne
      injection e' with e'
      subst e'
      rw [addr_add_plain]; exact hc' j u hu
    have hrun := run_append_grow (P := P) w t ty e i z ht hi hz ad n n xs hs.2.2.1 holds ⟨b, o, none⟩ m c news hr.2.2.1 hnews (by omega) (by omega) (growslice_fits (by omega) (by omega))
    exact ⟨_, _, hrun, grown, (Grew.refl w).drew.alloc _, rfl⟩

/-- append onto a slice that is full, of whatever: what comes reads as both. -/
theorem run_append_full_sl (t ty e : TypeId) (i : TypeInfo) (z : Value) (size bytes : Nat) (ht : P.underlying t = some (.slice e)) (hi : P.info? e = some i) (hz : i.zero = some z)
    (hsize : i.size = size) (hby : i.bytes = bytes) (hzs : z.cells.size = size) (hsz : 0 < size)
    (A : Option Addr) (n : Nat) (xs : List Value) (hs : Sl w size A n n xs)
    (B : Option Addr) (m c : Nat) (news : List Value) (hr : Sl w size B m c news)
    (h63 : n + m ≤ 1000000) (hbytes : bytes ≤ 1000000) :
    ∃ A' c' w', (Builtin.append_ #[t, t] ty #[.slice A n n, .slice B m c]).run P w = .ok (.slice A' (n + m) c') w' ∧ Sl w' size A' (n + m) c' (xs ++ news) ∧ Grew w w' := by
  by_cases hm : 0 < m
  · obtain ⟨v', w', hrun, hown, hg, _⟩ := run_append_full w t ty e i z size bytes ht hi hz hsize hby hzs hsz A n xs hs B m c news hr hm h63 hbytes
    obtain ⟨A', c', rfl⟩ := own_form hown
    exact ⟨A', c', w', hrun, Sl.own hown, hg⟩
  · obtain rfl : m = 0 := by omega
    have hn : news = [] := List.eq_nil_of_length_eq_zero (by simpa using hr.2.2.1)
    subst hn
    refine ⟨A, n, w, ?_, by simpa using hs, Grew.refl w⟩
    have hf : (Builtin.firstCells i.size 0 (.slice B 0 c)).run P w = .ok #[] w := by
      cases B with
      | none => simp [Builtin.firstCells]
      | some b => simp [Builtin.firstCells, loadCells, loadCellsFrom]
    cases A with
    | none => simp [Builtin.append_, run_underlying ht, Go.sizeOf, typeInfo, hi, Builtin.lenOf, hf]
    | some a => simp [Builtin.append_, run_underlying ht, Go.sizeOf, typeInfo, hi, Builtin.lenOf, hf, storeCells]

/-- An operation 'append' whose run is known. -/
theorem wp_append_run {o : Oper} {a : Act} {K : Act → World → Prop} {Q : Exit → Act → World → Prop} (s x : Operand) (t t' : TypeId)
    (ho : o.op = .call { callee := .builtin .append, args := #[s, x], argTypes := #[t, t'] }) {vs vx v' : Value} {w' : World} (hs : a.eval s = vs) (hx : a.eval x = vx)
    (hrun : (Builtin.append_ #[t, t'] o.type #[vs, vx]).run P w = .ok v' w') (h : K (a.put o.dst v') w') : o.wp P a w K Q := by
  unfold Oper.wp execOp
  simp only [ho, resolve, invoke, builtin, Sem.run_bind, Sem.run_pure, Result.andThen_ok, List.map_toArray, List.map_cons, List.map_nil, hs, hx, hrun]
  exact h
end
end WageMem
