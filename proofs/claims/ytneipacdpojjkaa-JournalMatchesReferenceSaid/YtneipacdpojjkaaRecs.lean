/-
  journal.Records.
-/
import Derived.Test.YtneipacdpojjkaaBag
namespace Go.Proofs.Ytneipacdpojjkaa
open Go.RowKit Go.Shelf Go.Proofs WageMem WageDisk
attribute [local go_sem] Oper.semAt_some

/-- A slice of slices of bytes. -/
def Lists (w : World) (A : Option Addr) (n c : Nat) (ls : List (List UInt8)) : Prop :=
  ls.length = n ∧ n ≤ c ∧ c ≤ maxLen ∧ (A = none → n = 0 ∧ c = 0) ∧
  (0 < n → ∃ b o, A = some ⟨b, o, none⟩ ∧ ∀ (j : Nat) (r : List UInt8), ls[j]? = some r → ∃ A' n' c', w.cell? ⟨b, o + j, none⟩ = some (.slice A' n' c') ∧ Bytes w A' n' c' r)
theorem Lists.grew {w w' : World} {A : Option Addr} {n c : Nat} {ls : List (List UInt8)} (h : Lists w A n c ls) (g : Grew w w') : Lists w' A n c ls :=
  ⟨h.1, h.2.1, h.2.2.1, h.2.2.2.1, fun hn => by
    obtain ⟨b, o, e, hc⟩ := h.2.2.2.2 hn
    exact ⟨b, o, e, fun j r hr => by obtain ⟨A', n', c', h1, h2⟩ := hc j r hr; exact ⟨A', n', c', g.cell h1, h2.grew g⟩⟩⟩
theorem Lists.none_ {w : World} : Lists w none 0 0 [] := ⟨rfl, Nat.le_refl _, Nat.zero_le _, fun _ => ⟨rfl, rfl⟩, fun h => absurd h (by decide)⟩

theorem Lists.keep {w w' : World} {A : Option Addr} {n c : Nat} {ls : List (List UInt8)} (h : Lists w A n c ls) (g : KeepG (fun _ => True) w w') : Lists w' A n c ls :=
  ⟨h.1, h.2.1, h.2.2.1, h.2.2.2.1, fun hn => by
    obtain ⟨b, o, e, hc⟩ := h.2.2.2.2 hn
    exact ⟨b, o, e, fun j r hr => by obtain ⟨A', n', c', h1, h2⟩ := hc j r hr; exact ⟨A', n', c', g _ _ trivial h1, Bytes.keepG h2 g (fun _ _ _ _ _ => trivial)⟩⟩⟩
theorem keep_putObj {W : World} {k : Nat} {o o' : Obj} (hk : W.heap[k]? = some o) (ho : o.isCells = false) : KeepG (fun _ => True) W (W.putObj k o') := fun p v _ hc => by
  obtain ⟨o2, h2, h3⟩ := cells_of_cell hc
  have hne : p.block ≠ k := by
    rintro rfl
    rw [hk] at h2
    injection h2 with h2
    subst h2
    cases o <;> simp_all [Obj.isCells]
  exact (World.cell?_of_block (World.putObj_heap_other hne)).trans hc
def recsOf (all : List UInt8) : List (List UInt8) := (places all).map (partOf all)
def endAt (all : List UInt8) : Nat := endOf (places all)
def bytesD (d : Ds) : List UInt8 := applyTo wholeC d.st 0 d.pe
def jRecs (d : Ds) : List (List UInt8) := if validB d then recsOf (bytesD d) else []
def jEnd (d : Ds) : Nat := if validB d then endAt (bytesD d) else 0
def RetRecs (ls : List (List UInt8)) (e : Int) (w : World) (r : Ending) (w' : World) : Prop := ∃ A n c, r = .returned (.tuple #[.slice A n c, .int .i64 e]) ∧ Lists w' A n c ls ∧ Grew w w'

theorem records_any (A : Option Addr) (n c : Nat) (w : World) :
    Calls Try.prog 51 #[.slice A n c] w fun e w' => e = .returned (.func (.func 58) #[] #[.pointer (some ⟨w.heap.size, 0, none⟩)]) ∧ w' = w.alloc (.cells #[.slice A n c] 22) := by
  go_enter Try.func51, Try.ntmps51
  go_wp2
  go_ret
  exact ⟨rfl, rfl⟩

theorem Bag.lists {base : Nat} {all : List UInt8} {pre : List (Nat × Nat)} {W : World} {R6 : Nat} {Al : Option Addr} {cl : Nat} {vs : List Value} (h : Bag base all pre W R6 Al cl vs) (hv : ∀ x ∈ pre, x.1 + x.2 ≤ all.length) : Lists W Al pre.length cl (pre.map (partOf all)) := by
  have hs := Sl.own h.row
  refine ⟨by simp, hs.1, hs.2.1, hs.2.2.2.2, fun hn => ?_⟩
  obtain ⟨b, o, e, hc⟩ := hs.2.2.2.1 (by intro e; have := h.len; rw [e] at this; simp at this; omega)
  refine ⟨b, o, e, fun j r hr => ?_⟩
  rw [List.getElem?_map] at hr
  cases hx : pre[j]? with
  | none => rw [hx] at hr; cases hr
  | some x =>
    rw [hx] at hr
    injection hr with hr
    subst hr
    obtain ⟨Aj, cj, h1, h2⟩ := h.data j x hx
    refine ⟨Aj, x.2, cj, hc j _ h1, Bytes.own ?_ h2⟩
    have := hv x (List.mem_of_getElem? hx)
    unfold partOf
    rw [List.length_take, List.length_drop]; omega

theorem scan_in (all : List UInt8) : ∀ (f a k : Nat) (x : Nat × Nat), x ∈ scan all f a k → x.1 + x.2 ≤ all.length
  | 0, _, _, _, h => by simp [scan] at h
  | f + 1, a, k, x, h => by
    unfold scan at h
    cases hr : recAt all a k with
    | none => rw [hr] at h; simp at h
    | some r =>
      rw [hr] at h
      have := recAt_len hr
      rcases List.mem_cons.1 h with rfl | h
      · show a + 13 + r.length ≤ _; omega
      · exact scan_in all f _ _ x h
theorem scan_len (all : List UInt8) : ∀ (f a k : Nat), a ≤ all.length → (scan all f a k).length ≤ all.length - a
  | 0, _, _, _ => by simp [scan]
  | f + 1, a, k, ha => by
    unfold scan
    cases hr : recAt all a k with
    | none => simp
    | some r =>
      have := recAt_len hr
      have ih := scan_len all f (a + (13 + r.length)) (k + 1) (by omega)
      simp only [List.length_cons]; omega

/-- append inside a fence, its run known. -/
theorem wpListIn_append_run {F : Fence} {n : Nat} {P : Program} (w : World) {ops : Array Oper} {rest : List Oper} {o : Oper} {a : Act} {Q : Exit → Act → World → Prop}
    (hg : o.guard = none) (s x : Operand) (t ty : TypeId) (hop : o.op = Op.call { callee := Callee.builtin Builtin.append, args := #[s, x], argTypes := #[t, t] }) (hty : o.type = ty)
    (v u v' : Value) (w' : World) (hs : a.eval s = v) (hx : a.eval x = u) (hrun : (Builtin.append_ #[t, t] ty #[v, u]).run P w = .ok v' w')
    (hK : wpListIn F n P ops Q rest (a.put o.dst v') w') : wpListIn F n P ops Q (o :: rest) a w := by
  refine wpListIn_plain hg fun K hK' => ?_
  subst hty
  unfold Oper.wpIn
  refine ⟨?_, ?_⟩
  · simp [Oper.about, hop, resolve, Target.leads, Sem.run_pure]
  · rw [Oper.semAt_plain F _ _ (by rw [hop]; intro c hc'; cases hc')]
    simp [execOp, hop, resolve, invoke, builtin, hs, hx, hrun, Result.andThen]
    exact hK' _ _ hK

/-- What holds behind each round. -/
structure Gat (w1 : World) (Ar : Option Addr) (n cr : Nat) (all : List UInt8) (pre : List (Nat × Nat)) (W : World) : Prop where
  bag : ∃ Al cl vs, Bag (w1.heap.size + 5) all pre W w1.heap.size Al cl vs
  last : Boxed W (w1.heap.size + 1) 3 (.int .i64 (endOf pre))
  cell : W.cell? ⟨w1.heap.size + 1 + 1, 0, none⟩ = some (.slice Ar n cr)
  bytes : Bytes W Ar n cr all
  grew : Grew w1 W
  size : w1.heap.size + 5 ≤ W.heap.size
def Stays (w1 : World) (p : Addr) : Prop := p.block < w1.heap.size + 3 ∧ p.block ≠ w1.heap.size ∧ p.block ≠ w1.heap.size + 1
section
variable {w1 : World} {Ar : Option Addr} {n cr : Nat} {all : List UInt8} {pre : List (Nat × Nat)} {W : World}
theorem Gat.later (h : Gat w1 Ar n cr all pre W) {W' : World} (g : Grew W W') : Gat w1 Ar n cr all pre W' := by
  obtain ⟨Al, cl, vs, hb⟩ := h.bag
  exact ⟨⟨Al, cl, vs, hb.grew g⟩, g.block h.last, g.cell h.cell, h.bytes.grew g, h.grew.trans g, Nat.le_trans h.size g.le⟩
theorem put_cell {k : Nat} {o' : Obj} {p : Addr} (h : p.block ≠ k) : (W.putObj k o').cell? p = W.cell? p := World.cell?_of_block (World.putObj_heap_other h)
theorem Gat.put (h : Gat w1 Ar n cr all pre W) (hB : ∀ b o, Ar = some ⟨b, o, none⟩ → 0 < n → b < w1.heap.size) (o' : Obj) : Gat w1 Ar n cr all pre (W.putObj (w1.heap.size + 4) o') := by
  obtain ⟨Al, cl, vs, hb⟩ := h.bag
  have hk : ∀ {e : TypeId} {v : Value} {m : Nat} {xs : List Value}, W.ownsRow (w1.heap.size + 5) e 1 v m xs → (W.putObj (w1.heap.size + 4) o').ownsRow (w1.heap.size + 5) e 1 v m xs := fun ho =>
    ho.kept (grownBy_putObj' W _ o') (.inr (own_low ho (by omega)))
  refine ⟨⟨Al, cl, vs, (World.putObj_heap_other (by omega)).trans hb.box, hk hb.row, fun j x hx => by obtain ⟨Aj, cj, h1, h2⟩ := hb.data j x hx; exact ⟨Aj, cj, h1, hk h2⟩, hb.len⟩,
    (World.putObj_heap_other (by omega)).trans h.last, (put_cell (by show w1.heap.size + 1 + 1 ≠ w1.heap.size + 4; omega)).trans h.cell, ?_, h.grew.grown (grownBy_putObj' W _ o') (by simp), by simpa [World.putObj] using h.size⟩
  refine Bytes.keepG (G := fun p => p.block < w1.heap.size) h.bytes (fun p v hp hc => (put_cell (by omega)).trans hc) (fun b o e j hj => hB b o e (by omega))
theorem keepG_put (l : Nat) (o' : Obj) (hl : w1.heap.size + 3 ≤ l) : KeepG (Stays w1) W (W.putObj l o') := fun p v hp hc => (put_cell (by have := hp.1; omega)).trans hc

theorem run_make_bytes (m : Nat) (hm : m ≤ 4096) (w : World) : (Instr.makeSlice 22 (.int .i64 (m : Int)) (.int .i64 (m : Int))).run Try.prog w = .ok (.slice (some ⟨w.heap.size, 0, none⟩) m m) (w.alloc (.cells (madeCells (Value.int .u8 0).cells (m * 1)) 5)) := by
  obtain ⟨i0, hi, hz0, hz1, hz2⟩ := info_parts info5
  have := run_make (P := Try.prog) w 22 5 i0 (.int .u8 0) Try.underlying22 hi hz0 .i64 .i64 m m (by omega) (Int.le_refl _) (by rw [hz2]; omega) (by omega)
  rw [Int.toNat_natCast, hz1] at this
  exact this

/-- A round's own memory. -/
theorem Gat.step (h : Gat w1 Ar n cr all pre W) {a m : Nat} (ham : a + m ≤ n) (hm : m ≤ 4096) (hp : pre.length ≤ 65536) (hB : ∀ b o, Ar = some ⟨b, o, none⟩ → 0 < n → b < w1.heap.size) :
    ∃ W1 W2 W4 Al cl Al' cl', (Instr.makeSlice 22 (.int .i64 (m : Int)) (.int .i64 (m : Int))).run Try.prog W = .ok (.slice (some ⟨W.heap.size, 0, none⟩) m m) W1 ∧
      (Builtin.copy_ #[22, 22] 3 #[.slice (some ⟨W.heap.size, 0, none⟩) m m, .slice (win Ar cr a) m (cr - a)]).run Try.prog W1 = .ok (goInt m) W2 ∧ W2.cell? ⟨w1.heap.size, 0, none⟩ = some (.slice Al pre.length cl) ∧
      (Builtin.append_ #[49, 49] 49 #[.slice Al pre.length cl, .slice (some ⟨W2.heap.size, 0, none⟩) 1 1]).run Try.prog (W2.alloc (.cells #[.slice (some ⟨W.heap.size, 0, none⟩) m m] 22)) = .ok (.slice Al' (pre.length + 1) cl') W4 ∧
      W4.cell? ⟨w1.heap.size, 0, none⟩ = some (.slice Al pre.length cl) ∧ W4.frozen? ⟨w1.heap.size, 0, none⟩ = false ∧ W4.cell? ⟨w1.heap.size + 1, 0, none⟩ = some (.int .i64 (endOf pre)) ∧ W4.frozen? ⟨w1.heap.size + 1, 0, none⟩ = false ∧
      ∀ e : Int, e = ((a + m : Nat) : Int) → ∀ A : Act, goesOnV (w1.heap.size + 3) (KeepG (Stays w1)) (Gat w1 Ar n cr all) (pre ++ [(a, m)]) W .normal A ((W4.setCell ⟨w1.heap.size, 0, none⟩ (.slice Al' (pre.length + 1) cl')).setCell ⟨w1.heap.size + 1, 0, none⟩ (.int .i64 e)) := by
  obtain ⟨Al, cl, vs, hb⟩ := h.bag
  have hpart := h.bytes.part (a := a) (m := m) ham
  obtain ⟨W2, r2, c2, Al', cl', W4, r4, c4, f4, bag4, bel, kep⟩ := bag_step hb (a := a) (m := m) hpart hm hp h.size (by omega)
  have box7 : Boxed W4 (w1.heap.size + 1) 3 (.int .i64 (endOf pre)) := (bel.block _ (by omega)).trans h.last
  refine ⟨_, W2, W4, Al, cl, Al', cl', run_make_bytes m hm W, r2, c2, r4, c4, f4, box7.cell, box7.frozen, fun e he A => ?_⟩
  subst he
  have ks : KeepsOthers W ((W4.setCell ⟨w1.heap.size, 0, none⟩ (.slice Al' (pre.length + 1) cl')).setCell ⟨w1.heap.size + 1, 0, none⟩ (.int .i64 ((a + m : Nat) : Int))) := (kep.trans (KeepsOthers.setCell _ _ _)).trans (KeepsOthers.setCell _ _ _)
  have kg : KeepG (Stays w1) W ((W4.setCell ⟨w1.heap.size, 0, none⟩ (.slice Al' (pre.length + 1) cl')).setCell ⟨w1.heap.size + 1, 0, none⟩ (.int .i64 ((a + m : Nat) : Int))) := fun p v hp hc => by
    rw [World.cell?_setCell_other _ _ _ _ (fun e => hp.2.2 (by rw [← e])), World.cell?_setCell_other _ _ _ _ (fun e => hp.2.1 (by rw [← e]))]
    exact (bel.cell (by have := hp.1; omega)).trans hc
  have hle : W.heap.size ≤ W4.heap.size := bel.size
  have g4 : Grew w1 W4 := ⟨bel.os.trans h.grew.os, bel.tape.trans h.grew.tape, bel.output.trans h.grew.output, Nat.le_trans h.grew.le bel.size, fun k hk => (bel.block k (by omega)).trans (h.grew.below.block k hk)⟩
  have own7 : ∀ {e : TypeId} {v : Value} {m' : Nat} {xs : List Value} {X : World} {u : Value}, X.ownsRow (w1.heap.size + 5) e 1 v m' xs → (X.setCell ⟨w1.heap.size + 1, 0, none⟩ u).ownsRow (w1.heap.size + 5) e 1 v m' xs := fun ho => own_set_low ho (by omega) _
  refine ⟨ks.from _, kg, ⟨Al', cl', _, ⟨(Below.heap_setCell _ _ _ _ (by simp)).trans bag4.box, own7 bag4.row, fun j x hx => by obtain ⟨Aj, cj, h1, h2⟩ := bag4.data j x hx; exact ⟨Aj, cj, h1, own7 h2⟩, bag4.len⟩⟩, ?_, kg _ _ ⟨show w1.heap.size + 1 + 1 < w1.heap.size + 3 by omega, show w1.heap.size + 1 + 1 ≠ w1.heap.size by omega, show w1.heap.size + 1 + 1 ≠ w1.heap.size + 1 by omega⟩ h.cell, ?_, ?_, ?_⟩
  · rw [endOf_snoc]
    exact (box7.other (by omega) _).set _
  · exact Bytes.keepG h.bytes kg (fun b o e j hj => by have := hB b o e (by omega); exact ⟨show b < w1.heap.size + 3 by omega, show b ≠ w1.heap.size by omega, show b ≠ w1.heap.size + 1 by omega⟩)
  · exact (g4.set (by simp) _).set (by simp) _
  · have := h.size; simp [World.setCell]; omega
end

set_option maxRecDepth 100000 in
set_option maxHeartbeats 4000000 in
theorem recs_any (v : Value) (d : Ds) (w : World) (h : Disk w v d) : Calls Try.prog 36 #[v] w (RetRecs (jRecs d) (jEnd d) w) := by
  obtain ⟨A, n, c, A', n', c', rfl, hB, hW⟩ := h.form
  have hn := hB.1
  have HH := Lib.hid h
  have hnm : n ≤ 9223372036854775807 := Nat.le_trans hB.2.1 hB.2.2.1
  cases hv : validB d with
  | false =>
    have E : Hid (jRecs d = [] ∧ jEnd d = 0) := by unfold Hid jRecs jEnd; rw [hv]; exact ⟨rfl, rfl⟩
    have E1 : Hid (readE d 0 n = 1) := by unfold Hid readE; rw [hv]; rfl
    clear hv h hB hW hn
    go_enter Try.func36, Try.ntmps36
    go_wp2_with fail
    refine (read_val (HH.out.grew ((Grew.refl w).alloc _)) (by decide) (by omega) (by decide) (by omega) rfl E1.out).mono ?_
    rintro e w1 ⟨Ar, nr, cr, rfl, _, g1⟩
    go_wp2_with fail
    go_ret2
    rw [E.out.1, E.out.2]
    exact ⟨none, 0, 0, rfl, Lists.none_, ((Grew.refl w).alloc _).trans g1⟩
  | true =>
    have hsz := valid_size hv
    have s1 : n ≤ 65536 := by omega
    have E : Hid (jRecs d = recsOf (bytesD d) ∧ jEnd d = endAt (bytesD d)) := by unfold Hid jRecs jEnd; rw [hv]; exact ⟨rfl, rfl⟩
    have ra := read_all hv
    have rb := hv
    have E1 : Hid (readE d 0 n = 0) := by unfold Hid readE; rw [hv, hn]; unfold insideB; simp
    have E2 : Hid (readB d 0 n = bytesD d) := by unfold Hid; rw [← hn]; exact ra
    have HL : Hid ((bytesD d).length = n) := by unfold Hid bytesD; rw [apply_len hv (ch := wholeC) (fun _ _ => Nat.le_refl _), hn]
    generalize bytesD d = all at *
    clear hv h hB hW hn ra rb hsz
    refine (callsIn_wide (n := 3)).1 ?_
    refine callsIn_of_wp_marks Try.func36 rfl trivial ?_ rfl
    simp only [Try.ntmps36, List.size_toArray, List.length_cons, List.length_nil, Nat.reduceAdd, Nat.reduceSub, Array.replicate_succ, Array.replicate_zero, List.push_toArray, List.append_toArray, List.nil_append, List.cons_append]
    gi_wp2
    refine ⟨trivial, ?_⟩
    refine (callsIn_wide.2 (read_val (HH.out.grew ((Grew.refl w).alloc _)) (by decide) (by omega) (by decide) (by omega) E2.out E1.out)).mono ?_
    rintro e w1 ⟨Ar, nr, cr, rfl, f1, g1⟩
    obtain rfl : nr = n := by have := f1.now.1; rw [HL.out] at this; exact this.symm
    have gg1 : Grew w w1 := ((Grew.refl w).alloc _).trans g1
    have HB := Lib.hid f1.now
    clear f1 g1
    gi_wp2_with (refine ⟨trivial, ?_⟩; gi_at_call 51; refine (callsIn_wide.2 (records_any _ _ _ _)).mono ?_; rintro r w' ⟨rfl, rfl⟩)
    obtain ⟨w3, hw3⟩ : ∃ w3, w3 = ((w1.alloc (.cells #[.slice none 0 0] 49)).alloc (.cells #[.int .i64 0] 3)).alloc (.cells #[.slice Ar nr cr] 22) := ⟨_, rfl⟩
    have hs3 : w3.heap.size = w1.heap.size + 3 := by rw [hw3]; simp
    have g3 : Grew w1 w3 := by rw [hw3]; exact (((Grew.refl w1).alloc _).alloc _).alloc _
    have b6 : Boxed w3 w1.heap.size 49 (.slice none 0 0) := by rw [hw3]; exact ((Boxed.new w1 49 _).alloc _).alloc _
    have b7 : Boxed w3 (w1.heap.size + 1) 3 (.int .i64 0) := by
      rw [hw3]; have := (Boxed.new (w1.alloc (.cells #[.slice none 0 0] 49)) 3 (.int .i64 0)).alloc (.cells #[.slice Ar nr cr] 22); rwa [World.size_alloc] at this
    have bx : Boxed w3 (w1.heap.size + 1 + 1) 22 (.slice Ar nr cr) := by
      rw [hw3]; have := Boxed.new ((w1.alloc (.cells #[.slice none 0 0] 49)).alloc (.cells #[.int .i64 0] 3)) 22 (.slice Ar nr cr); rwa [World.size_alloc, World.size_alloc] at this
    rw [← hw3]
    have hBlk : ∀ b o, Ar = some ⟨b, o, none⟩ → 0 < nr → b < w1.heap.size := fun b o e hp => by
      obtain ⟨b', o', e', hc⟩ := HB.out.at_ hp
      rw [e] at e'
      injection e' with e'
      injection e' with e1 e2
      subst e1
      obtain ⟨x, hx⟩ : ∃ x, all[0]? = some x := ⟨_, List.getElem?_eq_getElem (by rw [HL.out]; exact hp)⟩
      exact World.block_lt_of_cell? _ _ (hc 0 x hx)
    have HBlk := Lib.hid hBlk
    have hpl : (places all).length ≤ 65536 := by
      have := scan_len all (all.length + 1) 0 0 (Nat.zero_le _)
      have h2 := HL.out
      unfold places; omega
    have HPL := Lib.hid hpl
    clear hw3 hBlk hpl
    refine wpIn_rangeFunc_goesOnV rfl (by decide) (gf := 58) (lb := #[.pointer (some ⟨w1.heap.size + 1 + 1, 0, none⟩)]) rfl trivial (enters_of Try.func58 (by kernel_rfl) rfl) (encs := fun x : Nat × Nat => #[.int .i64 ((x.1 + x.2 : Nat) : Int), .slice (win Ar cr x.1) x.2 (cr - x.1)]) (fun _ => rfl)
      (fun o1 o2 => records1_runs 2 (w1.heap.size + 1 + 1) Ar nr cr all (Stays w1) _ ((bx.alloc o1).alloc o2).cell ⟨show w1.heap.size + 1 + 1 < w1.heap.size + 3 by omega, show w1.heap.size + 1 + 1 ≠ w1.heap.size by omega, show w1.heap.size + 1 + 1 ≠ w1.heap.size + 1 by omega⟩
        (HB.out.grew ((g3.alloc o1).alloc o2)) (fun b o e j hj => by have := HBlk.out b o e (by omega); exact ⟨show b < w1.heap.size + 3 by omega, show b ≠ w1.heap.size by omega, show b ≠ w1.heap.size + 1 by omega⟩) s1)
      (fun A B C h k p v hp hc => k p v hp (h p v hp hc)) ?kb ?st (Gat w1 Ar nr cr all) ?is ?ib ?start
      (fun x => { tmps := #[.agg #[.slice A nr c, .slice A' n' c'], .pointer (some ⟨w.heap.size, 0, none⟩), .slice none 0 0, .int .i64 0, .slice Ar nr cr, .int .i64 0, .pointer (some ⟨w1.heap.size, 0, none⟩), .pointer (some ⟨w1.heap.size + 1, 0, none⟩), .int .i64 ((x.1 + x.2 : Nat) : Int), .slice (win Ar cr x.1) x.2 (cr - x.1), undef,
        .tuple #[.slice Ar nr cr, .int .i64 0], .agg #[.slice A nr c, .slice A' n' c'], .pointer (some ⟨w.heap.size, 0, none⟩), .slice A nr c, .int .i64 nr, .tuple #[.slice Ar nr cr, .int .i64 0], .slice Ar nr cr, .int .i64 0, .int .i64 0, .bool false, .slice Ar nr cr,
        .func (.func 58) #[] #[.pointer (some ⟨w1.heap.size + 1 + 1, 0, none⟩)], .int .i64 ((x.1 + x.2 : Nat) : Int), .slice (win Ar cr x.1) x.2 (cr - x.1), undef, undef, undef, undef, undef, undef, undef, undef, undef, undef, undef, undef, undef], defers := [] }) ?assign ?body ?done
    case kb =>
      intro W l o' hl
      exact keepG_put l o' (by omega)
    case st => exact fun A B g k o _ ho => g.block ho
    case is => exact fun s A B h g => h.later g
    case ib =>
      intro s W o' _ h
      rw [hs3]
      exact h.put HBlk.out o'
    case start =>
      intro o1 o2
      have e1 : Grew w3 ((w3.alloc o1).alloc o2) := ((Grew.refl w3).alloc _).alloc _
      refine ⟨⟨none, 0, [], e1.block b6, World.ownsRow_nil _ _ _ _, fun j x hx => by simp at hx, rfl⟩, e1.block b7, ((bx.alloc o1).alloc o2).cell, HB.out.grew ((g3.alloc o1).alloc o2), (g3.alloc o1).alloc o2, by simp; omega⟩
    case assign =>
      intro l x W K hK
      gi_wp2
      exact hK
    case body =>
      rintro l pre ⟨a, m⟩ W hG ⟨v1, v2, v3⟩ hlen
      have hpp : pre.length ≤ 65536 := by have := HPL.out; omega
      obtain ⟨W1, W2, W4, Al, cl, Al', cl', r1, r2, c2, r4, c4, f4, c7, f7, fin⟩ := hG.step (a := a) (m := m) v1 v3 hpp HBlk.out
      rw [hs3]
      have FIN := Lib.hid fin
      have HS3 := Lib.hid hs3
      clear fin hG hs3 g3 b6 b7 bx hlen
      have R4 := Lib.hid r4
      clear r4
      gi_wp2_with (gi_at_builtin; refine wpListIn_append_run _ (by rfl) (.tmp 31) (.tmp 33) 49 49 (by rfl) (by rfl) _ _ _ _ (by rfl) (by rfl) R4.out ?_)
      first | exact FIN.out _ rfl _ | exact FIN.out ((a : Int) + (m : Int)) (by omega) _
    case done =>
      rintro xs W rfl hG hK
      obtain ⟨Al, cl, vs, hbag⟩ := hG.bag
      have c6 : W.cell? ⟨w1.heap.size, 0, none⟩ = some (.slice Al (places all).length cl) := blk_cell hbag.box 0
      have c7 := hG.last.cell
      have HLI := Lib.hid (hbag.lists (fun x hx => scan_in all _ _ _ x hx))
      have HG := Lib.hid hG
      clear hG hbag b6 b7 bx g3
      gi_wp2
      gi_region
      gi_wp2
      refine ⟨by simp, .inl ⟨_, _, rfl, run_takeDeferred hK, ?_⟩⟩
      refine ⟨_, results_tmp2 rfl _ _ _, ?_⟩
      rw [E.out.1, E.out.2]
      have kd : KeepG (fun _ => True) W W.drew := fun p v _ hc => hc
      refine ⟨Al, (places all).length, cl, rfl, (HLI.out.keep kd).keep (keep_putObj (o := .deferred (some [])) hK rfl), ?_⟩
      exact (gg1.trans HG.out.grew.drew).grown (grownBy_putObj' _ _ _) (by simp; have := gg1.le; omega)
end Go.Proofs.Ytneipacdpojjkaa
