/-
 span.Valid and span.Meet.
-/
import Derived.Test.YtnnbibmmofnkdaaGreatSpA
import Derived.Laws.StructEq
import Derived.Test.YtnnbibmmofnkdaaGreatShelf
import Derived.Deep.DeepCutAuto
import Derived.IntWalk
namespace Go.Proofs.YtnnbibmmofnkdaaGreat
open Go.RowKit Go.Proofs WageMem WageSpan
theorem fields33 : Tryz.prog.underlying 28 = some (.struct (Tryz.prog.fieldsOf 28)) := by kernel_rfl
theorem held33 : Tryz.prog.stoodInHeld 28 = false := by kernel_rfl
theorem list33 : (Tryz.prog.fieldsOf 28).toList = [{ name := "From", type := 3, offset := 0, embedded := false, tag := "", pkgPath := "", byteOffset := 0 }, { name := "To", type := 3, offset := 1, embedded := false, tag := "", pkgPath := "", byteOffset := 8 }] := by kernel_rfl
theorem part3s (w : World) (xs : Array Value) (i : Nat) (v : Int) (h : xs[i]? = some (.int .i64 v)) : (part 3 xs i).run Tryz.prog w = .ok (.int .i64 v) w := by
 have h0 : (isAgg 3).run Tryz.prog w = .ok false w := Tryz.isAgg3 w
 unfold part
 simp [h0, h]
theorem equal33 (w : World) (a b c d : Int) : (Op.equalIn 10000 28 (.agg #[.int .i64 a, .int .i64 b]) (.agg #[.int .i64 c, .int .i64 d])).run Tryz.prog w = .ok (decide ((a, b) = (c, d))) w := by
 rw [run_equalIn_agg w 9999 28 _ _ fields33 held33, list33]
 by_cases h1 : a = c
 ·by_cases h2 : b = d
  ·simp [Op.eqFields, part3s w _ 0 a, part3s w _ 1 b, run_equalIn_int _ 9998 3 .i64 .i64 _ _ Tryz.underlying3, h1, h2]
  ·simp [Op.eqFields, part3s w _ 0 a, part3s w _ 1 b, part3s w _ 1 d, run_equalIn_int _ 9998 3 .i64 .i64 _ _ Tryz.underlying3, h1, h2]
 ·simp [Op.eqFields, part3s w _ 0 a, part3s w _ 0 c, run_equalIn_int _ 9998 3 .i64 .i64 _ _ Tryz.underlying3, h1]
/-- Whether two spans are the same. -/
def eqS (a b c d : Int) : Bool := decide ((a, b) = (c, d))
theorem neq28 (w : World) (a b c d : Int) : (binOp .neq 28 (.agg #[.int .i64 a, .int .i64 b]) (.agg #[.int .i64 c, .int .i64 d])).run Tryz.prog w = .ok (.bool (!eqS a b c d)) w := by
 rw [run_neq_struct, equal33]; rfl
theorem guard28 (w : World) (op : BinOp) (x y : Operand) (xs ys : Array Value) : (eqGuard op 28 x y (.agg xs) (.agg ys)).run Tryz.prog w = .ok () w := run_eqGuard_agg w op 28 x y xs ys (by kernel_rfl)
end Go.Proofs.YtnnbibmmofnkdaaGreat
namespace Go.Proofs.YtnnbibmmofnkdaaGreat
open Go.Shelf Go.RowKit Go.Proofs WageMem WageSpan Go.Sort Go.Lib
instance : Inhabited Ed := ⟨⟨0, 0, 0⟩⟩
def encE (e : Ed) : List Value := [.int .i64 e.off, .int .i64 e.fi, .int .i64 e.se]
def flatE (E : List Ed) : List Value := E.flatMap encE
theorem flatE_get : ∀ (E : List Ed) (t : Nat), t < E.length * 3 → (flatE E)[t]? = some ((encE (E.toArray[t / 3]!))[t % 3]!)
 | [], t, h => by simp at h
 | e :: E, t, h => by
  have e0 : flatE (e :: E) = .int .i64 e.off :: .int .i64 e.fi :: .int .i64 e.se :: flatE E := rfl
  rw [e0]
  match t, h with
  | 0, _ => rfl
  | 1, _ => rfl
  | 2, _ => rfl
  | t + 3, h =>
   have ih := flatE_get E t (by simp at h; omega)
   have h1 : (t + 3) / 3 = t / 3 + 1 := by omega
   have h2 : (t + 3) % 3 = t % 3 := by omega
   rw [h1, h2]
   have h3 : ((e :: E).toArray)[t / 3 + 1]! = E.toArray[t / 3]! := by
    simp [Array.getElem!_eq_getD, Array.getD]
   rw [h3]
   simpa using ih
theorem flatE_one (E : List Ed) : ∀ u ∈ flatE E, u.oneCell' = true := by
 intro u hu
 obtain ⟨s, _, hs⟩ := List.mem_flatMap.1 hu
 unfold encE at hs
 rcases List.mem_cons.1 hs with rfl | hs
 ·rfl
 ·rcases List.mem_cons.1 hs with rfl | hs
  ·rfl
  ·rcases List.mem_cons.1 hs with rfl | hs
   ·rfl
   ·simp at hs
theorem own_cells {w : World} {base : Nat} {e : TypeId} {size g n c j : Nat} {xs : List Value} (h : w.ownsRow base e size (.slice (some ⟨g, 0, none⟩) n c) n xs) {u : Value} (hu : xs[j]? = some u) : w.cell? ⟨g, j, none⟩ = some u ∧ w.frozen? ⟨g, j, none⟩ = false := by
 obtain ⟨hl, h2⟩ := h
 rcases h2 with ⟨hv, hn⟩ | ⟨g', cap, cur, hv, hb, hg, hnc, hcm, hcs, ht⟩
 ·cases hv
 ·injection hv with e1 e2 e3
  injection e1 with e1
  injection e1 with e1
  subst e1
  refine ⟨?_, blk_frozen hg j⟩
  rw [blk_cell hg, ← Array.getElem?_toList]
  rw [← ht, List.getElem?_take] at hu
  split at hu
  ·exact hu
  ·cases hu
theorem holds_own {w : World} {base g m c : Nat} {E : List Ed} (h : w.ownsRow base 244 3 (.slice (some ⟨g, 0, none⟩) m c) m (flatE E)) : HoldsK encE 3 w g 0 E.toArray := by
 intro j hj
 rw [size_flatK] at hj
 have hj' : j < E.length * 3 := by simpa using hj
 rw [get_flatK _ _ _ _ hj, Nat.zero_add]
 exact own_cells h (flatE_get E j hj')
/-- A slice of edges that is read. -/
def Edges (w : World) (A : Option Addr) (m : Nat) (E : List Ed) : Prop :=
 E.length = m ∧ (0 < m → ∃ g, A = some ⟨g, 0, none⟩ ∧ ∀ (k : Nat) (e : Ed), E[k]? = some e → w.cell? ⟨g, k * 3, none⟩ = some (.int .i64 e.off) ∧ w.cell? ⟨g, k * 3 + 1, none⟩ = some (.int .i64 e.fi) ∧ w.cell? ⟨g, k * 3 + 2, none⟩ = some (.int .i64 e.se))
theorem Edges.grew {w w' : World} {A : Option Addr} {m : Nat} {E : List Ed} (h : Edges w A m E) (g : Grew w w') : Edges w' A m E :=
 ⟨h.1, fun hm => by
  obtain ⟨b, e, hc⟩ := h.2 hm
  exact ⟨b, e, fun k x hx => ⟨g.cell (hc k x hx).1, g.cell (hc k x hx).2.1, g.cell (hc k x hx).2.2⟩⟩⟩
theorem edges_holds {w : World} {g : Nat} {d : Array Ed} (h : HoldsK encE 3 w g 0 d) : Edges w (some ⟨g, 0, none⟩) d.size d.toList := by
 refine ⟨by simp, fun _ => ⟨g, rfl, fun k e he => ?_⟩⟩
 have hk : k < d.size := by have := (List.getElem?_eq_some_iff.1 he).1; simpa using this
 have hd : d[k]! = e := by
  rw [getElem!_pos d k hk]
  have := (List.getElem?_eq_some_iff.1 he).2
  simpa using this
 have hh : ∀ i, i < 3 → w.cell? ⟨g, k * 3 + i, none⟩ = some ((encE e)[i]!) := by
  intro i hi
  have := (h (k * 3 + i) (by rw [size_flatK]; omega)).1
  rw [get_flatK _ _ _ _ (by omega), show (k * 3 + i) / 3 = k by omega, show (k * 3 + i) % 3 = i by omega, hd, Nat.zero_add] at this
  exact this
 exact ⟨hh 0 (by omega), hh 1 (by omega), hh 2 (by omega)⟩
theorem sort_block {w : World} {g n : Nat} {d : Array Ed} {os : Array Obj} {k : Nat} (hk : k ≠ g) (hl : k < w.heap.size) : (sortWorldK encE 3 w g 0 n d os).heap[k]? = w.heap[k]? := by
 unfold sortWorldK putRowK putRow
 show ((mapBlock (Sort.ahead w n) g _).heap ++ os)[k]? = _
 have hs : (mapBlock (Sort.ahead w n) g (putCells id 0 (flatK encE 3 d))).heap.size = w.heap.size := by simp [mapBlock, Sort.ahead]
 rw [Array.getElem?_append_left (by rw [hs]; exact hl)]
 simp only [mapBlock, Sort.ahead]
 rw [Array.getElem?_modify, if_neg (by omega)]
theorem sort_grew {w0 w : World} {g n : Nat} {d : Array Ed} {os : Array Obj} (h : Grew w0 w) (hg : w0.heap.size ≤ g) : Grew w0 (sortWorldK encE 3 w g 0 n d os) := by
 refine ⟨h.os, h.tape, h.output, Nat.le_trans h.size (size_sortWorldK_c encE 3 w g 0 n d os), fun k hk => ?_⟩
 exact (sort_block (by omega) (Nat.lt_of_lt_of_le hk h.size)).trans (h.below.block k hk)
theorem lt_cmp (x y : Ed) : ltOf (fun x y : Ed => cmpI x.off y.off) x y = decide (x.off < y.off) := by
 unfold ltOf cmpI
 by_cases h1 : x.off < y.off
 ·simp [h1]
 ·by_cases h2 : y.off < x.off <;> simp [h1, h2]
theorem swo_cmp : SWO (ltOf fun x y : Ed => cmpI x.off y.off) where
 irrefl x := by rw [lt_cmp]; simp
 trans x y z h1 h2 := by rw [lt_cmp] at *; simp at *; omega
 ntrans x y z h1 h2 := by rw [lt_cmp] at *; simp at *; omega
theorem cmp_lays {K g : Nat} {size : Nat} {w : World} (hk : w.cell? ⟨K, 0, none⟩ = some (.func (.func 159) #[] #[])) (hne : K ≠ g) : CmpLays Tryz.prog 171 #[.pointer (some ⟨K, 0, none⟩)] encE 3 (fun x y : Ed => cmpI x.off y.off) g 0 size w := by
 intro m os dk _ x y
 have hc : (sortWorldK encE 3 w g 0 m dk os).cell? ⟨K, 0, none⟩ = some (.func (.func 159) #[] #[]) := (cell?_sortWorldK_other encE 3 w g 0 m dk os ⟨K, 0, none⟩ hne (World.block_lt_of_cell? _ _ hk)).trans hk
 exact cmp_any x.off x.fi x.se y.off y.fi y.se K _ hc
theorem sorted_of {d d' : Array Ed} (h : SortedIn (ltOf fun x y : Ed => cmpI x.off y.off) 0 d.size d') (hs : d'.size = d.size) : SortedE d'.toList := by
 unfold SortedE
 rw [List.pairwise_iff_getElem]
 intro i j hi hj hij
 have := h i j (Nat.zero_le _) hij (by simpa [hs] using hj)
 rw [lt_cmp, getElem!_pos d' j (by simpa using hj), getElem!_pos d' i (by simpa using hi)] at this
 have := of_decide_eq_false this
 simp
 omega
set_option maxHeartbeats 1000000 in
set_option maxRecDepth 100000 in
theorem sortBy_some {base : Nat} (g m c : Nat) (E : List Ed) (w : World) (h : w.ownsRow base 244 3 (.slice (some ⟨g, 0, none⟩) m c) m (flatE E)) (hm : E.length = m) (hl : m ≤ 1000000) (w0 : World) (g0 : Grew w0 w) (hg : w0.heap.size ≤ g) (hgw : g < w.heap.size) :
  Calls Tryz.prog 158 #[.slice (some ⟨g, 0, none⟩) m c, .func (.func 159) #[] #[]] w fun e w' => e = .returned (.tuple #[]) ∧ ∃ E' : List Ed, E'.Perm E ∧ SortedE E' ∧ Edges w' (some ⟨g, 0, none⟩) m E' ∧ Grew w0 w' := by
 have eg : ∀ args w, (callFunc 171 args).run Tryz.prog w = .ok (.enter 171 args) w := enters_of Tryz.func171 (by kernel_rfl) rfl
 obtain ⟨w1, hw1⟩ : ∃ x, x = w.alloc (.cells #[.func (.func 159) #[] #[]] 259) := ⟨_, rfl⟩
 have g1 : Grew w w1 := by rw [hw1]; exact (Grew.refl w).alloc _
 have hk : w1.cell? ⟨w.heap.size, 0, none⟩ = some (.func (.func 159) #[] #[]) := by rw [hw1]; simp
 have hsz : E.toArray.size = m := by simpa using hm
 have hcon := AnyQ.slices_SortFunc Tryz.sortE 3 Tryz.isAgg244 Tryz.sizeOf244 encE (fun _ => rfl) (fun x v hv => by simp [encE] at hv; rcases hv with rfl | rfl | rfl <;> rfl) (fun x y : Ed => cmpI x.off y.off) swo_cmp 171 #[.pointer (some ⟨w.heap.size, 0, none⟩)] g 0 c E.toArray w1 eg
  (cmp_lays hk (by omega)) (holds_own (own_grew h g1)) (by have := g1.le; omega) (by rw [hsz]; omega)
 rw [hsz] at hcon
 change Calls Tryz.prog 170 _ _ _ at hcon
 have HC := Lib.hid hcon
 have HO := Lib.hid (holds_own (own_grew h g1))
 have GG := Lib.hid (g0.trans g1)
 have hsz1 := g1.le
 clear hcon h g1 hk
 go_enter Tryz.func158, Tryz.ntmps158
 go_wp2_with fail
 rw [← hw1]
 refine (HC.out).mono ?_
 rintro e w2 ⟨rfl, d', n, os, hp, hs, rfl⟩
 have hds : d'.size = m := by rw [hp.1, hsz]
 have P1 : Hid (d'.toList.Perm E) := by
  have := hp.2.2
  rw [Array.extract_eq_self_of_le (by rw [hds]; exact Nat.le_refl _), Array.extract_eq_self_of_le (by rw [hsz]; exact Nat.le_refl _)] at this
  exact this
 have P2 : Hid (SortedE d'.toList) := sorted_of (d := E.toArray) (by rw [hsz]; exact hs) hp.1
 have P3 : Hid (Edges (sortWorldK encE 3 w1 g 0 n d' os) (some ⟨g, 0, none⟩) m d'.toList) := by
  have := edges_holds (holdsK_sortWorldK_c encE 3 w1 g 0 E.toArray d' n os HO.out (by omega) hp.1)
  rw [hds] at this
  exact this
 have P4 : Hid (Grew w0 (sortWorldK encE 3 w1 g 0 n d' os)) := sort_grew GG.out hg
 generalize sortWorldK encE 3 w1 g 0 n d' os = w3 at *
 clear hp hs hds hsz HO
 go_wp2_with fail
 go_end0
 exact ⟨rfl, d'.toList, P1.out, P2.out, P3.out, P4.out⟩
theorem sortBy_none (c : Nat) (w : World) : Calls Tryz.prog 158 #[.slice none 0 c, .func (.func 159) #[] #[]] w fun e w' => e = .returned (.tuple #[]) ∧ Grew w w' := by
 obtain ⟨w1, hw1⟩ : ∃ x, x = w.alloc (.cells #[.func (.func 159) #[] #[]] 259) := ⟨_, rfl⟩
 have hcon := AnyF.slices_SortFunc_none { Tryz.sortE with } none c (.func (.func 171) #[] #[.pointer (some ⟨w.heap.size, 0, none⟩)]) w1
 change Calls Tryz.prog 170 _ _ _ at hcon
 have HC := Lib.hid hcon
 have GG : Hid (Grew w w1) := by unfold Hid; rw [hw1]; exact (Grew.refl w).alloc _
 clear hcon
 go_enter Tryz.func158, Tryz.ntmps158
 go_wp2_with fail
 rw [← hw1]
 clear hw1
 refine (HC.out).mono ?_
 rintro e w2 ⟨rfl, hw⟩
 subst hw
 go_wp2_with fail
 go_end0
 exact ⟨rfl, GG.out⟩
end Go.Proofs.YtnnbibmmofnkdaaGreat
namespace Go.Proofs.YtnnbibmmofnkdaaGreat
open Go.RowKit Go.Proofs WageMem WageSpan
theorem info244 : (Tryz.prog.info? 244).map (fun i => (i.zero, i.size, i.bytes)) = some (some (.agg #[.int .i64 0, .int .i64 0, .int .i64 0]), 3, 24) := by kernel_rfl
theorem info28 : (Tryz.prog.info? 28).map (fun i => (i.zero, i.size, i.bytes)) = some (some (.agg #[.int .i64 0, .int .i64 0]), 2, 16) := by kernel_rfl
/-- A block that was just laid, as a slice. -/
theorem built {w : World} {t : TypeId} (size n : Nat) (cs : Array Value) (xs : List Value) (h : cs = xs.toArray) (hn : xs.length = n * size) (hm : n ≤ 1000) : Sl (w.alloc (.cells cs t)) size (some ⟨w.heap.size, 0, none⟩) n n xs := by
 subst h
 refine ⟨Nat.le_refl _, by unfold maxLen; omega, hn, fun _ => ⟨w.heap.size, 0, rfl, fun j u hu => ?_⟩, fun h => by cases h⟩
 rw [blk_cell (heap_alloc_new w _), Nat.zero_add]
 simpa using hu
theorem edTo {a : List Sp} {k : Nat} {s : Sp} (h : a[k]? = some s) (f : Sp → List Ed) : (a.take (k + 1)).flatMap f = (a.take k).flatMap f ++ f s := by
 rw [List.take_add_one, h, List.flatMap_append]; simp
theorem flatE_append (l k : List Ed) : flatE (l ++ k) = flatE l ++ flatE k := by unfold flatE; rw [List.flatMap_append]
/-- What the loops of edges keep. -/
structure EdInv (w : World) (E : List Ed) (Al : Option Addr) (j cl : Nat) (W : World) : Prop where
 own : W.ownsRow w.heap.size 244 3 (.slice Al j cl) j (flatE E)
 len : E.length = j
 grew : Grew w W
def RetE (E : List Ed) (w : World) (r : Ending) (w' : World) : Prop := ∃ (A : Option Addr) (m c : Nat) (E' : List Ed), r = .returned (.slice A m c) ∧ E'.Perm E ∧ SortedE E' ∧ Edges w' A m E' ∧ m ≤ 100000 ∧ Grew w w'
set_option maxRecDepth 100000 in
set_option maxHeartbeats 4000000 in
theorem edges_any (A B : Option Addr) (n m c e : Nat) (a b : List Sp) (w : World) (ha : Spans w A n c a) (hb : Spans w B m e b) (hn : n ≤ 2000) (hm : m ≤ 2000) :
  Calls Tryz.prog 143 #[.slice A n c, .slice B m e] w (RetE (edges a b) w) := by
 obtain ⟨i0, hi, hz0, hz1, hz2⟩ := info_parts info244
 have HA := Lib.hid ha
 have HB := Lib.hid hb
 clear ha hb
 go_enter Tryz.func143, Tryz.ntmps143
 go_wp2_with fail
 go_loopw [5, 12] (fun v i wr => ∃ (k : Nat) (Al : Option Addr) (j cl : Nat), k ≤ n ∧ j ≤ k * 2 ∧ i = .int .i64 k ∧ v = .slice Al j cl ∧ Hid (EdInv w ((a.take k).flatMap edF) Al j cl wr)) (fun _ i _ => n - (intOf i).toNat)
 case atStart => exact ⟨0, none, 0, 0, Nat.zero_le _, Nat.zero_le _, rfl, rfl, ⟨World.ownsRow_nil _ _ _ _, rfl, Grew.refl _⟩⟩
 case round =>
  obtain ⟨k, Al, j, cl, hk, hj, rfl, rfl, INV⟩ := hrel
  by_cases hlt : k < n
  ·obtain ⟨b0, o0, s, rfl, hs, c1, c2, b1, b2⟩ := (HA.out.grew INV.out.grew).at_ hlt
   have hed := edTo hs edF
   obtain ⟨s1, s2⟩ := s
   simp only at c1 c2 b1 b2
   have HED := Lib.hid hed
   have i0' : (0 : Int) ≤ (k : Int) := by omega
   have i1' : (k : Int) < (n : Int) := by omega
   clear hs hed
   obtain ⟨wa, hwa⟩ : ∃ x, x = wr.alloc (.cells #[.int .i64 s1, .int .i64 s2] 28) := ⟨_, rfl⟩
   have ga : Grew wr wa := by rw [hwa]; exact (Grew.refl wr).alloc _
   have e1 : wa.cell? ⟨wr.heap.size, 0, none⟩ = some (.int .i64 s1) := by rw [hwa]; simp
   have e2 : wa.cell? ⟨wr.heap.size, 1, none⟩ = some (.int .i64 s2) := by rw [hwa]; simp
   cases hp : properB (s1, s2) with
   | false =>
    have HP := Lib.hid hp
    have HX : Hid ((a.take (k + 1)).flatMap edF = (a.take k).flatMap edF) := by unfold Hid; rw [HED.out]; unfold edF; rw [hp]; simp
    clear hp
    go_wp2_with fail
    rw [← hwa]
    clear hwa
    refine (proper_val HP.out _).mono ?_
    rintro e w2 ⟨rfl, g2⟩
    have INV2 : Hid (EdInv w ((a.take (k + 1)).flatMap edF) Al j cl w2) := by unfold Hid; rw [HX.out]; exact ⟨own_grew INV.out.own (ga.trans g2), INV.out.len, INV.out.grew.trans (ga.trans g2)⟩
    clear ga g2 INV
    go_wp2_with fail
    go_roundw
    case rel => exact ⟨k + 1, Al, j, cl, by omega, by omega, by go_num, rfl, INV2⟩
    case measure => simp [intOf]; omega
   | true =>
    have HP := Lib.hid hp
    have HX : Hid ((a.take (k + 1)).flatMap edF = (a.take k).flatMap edF ++ [⟨s1, 1, 0⟩, ⟨s2, -1, 0⟩]) := by unfold Hid; rw [HED.out]; unfold edF; rw [hp]; simp
    clear hp
    go_wp2_with fail
    rw [← hwa]
    clear hwa
    refine (proper_val HP.out _).mono ?_
    rintro e w2 ⟨rfl, g2⟩
    replace e1 := g2.cell e1
    replace e2 := g2.cell e2
    have g02 := INV.out.grew.trans (ga.trans g2)
    have O2 := Lib.hid (own_grew INV.out.own (ga.trans g2))
    have hle := g02.le
    have BI : Hid (Sl (w2.alloc (.cells #[.int .i64 s1, .int .i64 1, .int .i64 0, .int .i64 s2, .int .i64 (-1), .int .i64 0] 244)) 3 (some ⟨w2.heap.size, 0, none⟩) 2 2 (flatE [⟨s1, 1, 0⟩, ⟨s2, -1, 0⟩])) := built 3 2 _ _ rfl rfl (by decide)
    go_wp2_with (at_builtin; refine wpList_append_sl _ rfl (.tmp 18) (.tmp 25) 241 rfl w.heap.size 244 i0 (.agg #[.int .i64 0, .int .i64 0, .int .i64 0]) 3 24 Tryz.underlying241 hi hz0 hz1 hz2 rfl (by decide) (.slice Al j cl) j _ rfl (O2.out.alloc _) (some ⟨w2.heap.size, 0, none⟩) 2 2 _ rfl BI.out (flatE_one _) (by unfold maxLen; omega) (by omega) (by simp; omega) ?_; intro v3 w3 own3 hg3 hat3; obtain ⟨A3, c3, rfl⟩ := own_form own3)
    have INV2 : Hid (EdInv w ((a.take (k + 1)).flatMap edF) A3 (j + 2) c3 w3) := by
     unfold Hid
     rw [HX.out]
     exact ⟨by rw [flatE_append]; exact own3, by rw [List.length_append, INV.out.len]; rfl, (g02.alloc _).grown hg3 (fun q hq => (O2.out.lt q hq).1)⟩
    clear ga g2 INV own3 hg3 hat3 BI O2 e1 e2
    go_roundw
    case rel => exact ⟨k + 1, A3, j + 2, c3, by omega, by omega, by go_num, rfl, INV2⟩
    case measure => simp [intOf]; omega
  ·obtain rfl : k = n := by omega
   have INV1 : Hid (EdInv w (a.flatMap edF ++ (b.take 0).flatMap edS) Al j cl wr) := by
    have := INV.out
    rw [List.take_of_length_le (by rw [HA.out.1]; omega)] at this
    unfold Hid
    rw [List.take_zero]
    simpa using this
   obtain ⟨wo, rfl⟩ : ∃ wo : World, wo = wr := ⟨_, rfl⟩
   have hj4 : j ≤ 4000 := by omega
   clear INV
   go_wp2_with fail
   go_loopw [5, 30] (fun v i wr => ∃ (k : Nat) (Al : Option Addr) (j cl : Nat), k ≤ m ∧ j ≤ 4000 + k * 2 ∧ i = .int .i64 k ∧ v = .slice Al j cl ∧ Hid (EdInv w (a.flatMap edF ++ (b.take k).flatMap edS) Al j cl wr)) (fun _ i _ => m - (intOf i).toNat)
   case atStart => exact ⟨0, Al, j, cl, Nat.zero_le _, by omega, rfl, rfl, INV1⟩
   case round =>
    clear INV1
    obtain ⟨k2, Al, j, cl, hk2, hj, rfl, rfl, INV⟩ := hrel
    by_cases hlt2 : k2 < m
    ·obtain ⟨b0, o0, s, rfl, hs, c1, c2, b1, b2⟩ := (HB.out.grew INV.out.grew).at_ hlt2
     have hed := edTo hs edS
     obtain ⟨s1, s2⟩ := s
     simp only at c1 c2 b1 b2
     have HED := Lib.hid hed
     have i0' : (0 : Int) ≤ (k2 : Int) := by omega
     have i1' : (k2 : Int) < (m : Int) := by omega
     clear hs hed
     obtain ⟨wa, hwa⟩ : ∃ x, x = wr.alloc (.cells #[.int .i64 s1, .int .i64 s2] 28) := ⟨_, rfl⟩
     have ga : Grew wr wa := by rw [hwa]; exact (Grew.refl wr).alloc _
     have e1 : wa.cell? ⟨wr.heap.size, 0, none⟩ = some (.int .i64 s1) := by rw [hwa]; simp
     have e2 : wa.cell? ⟨wr.heap.size, 1, none⟩ = some (.int .i64 s2) := by rw [hwa]; simp
     cases hp : properB (s1, s2) with
     | false =>
      have HP := Lib.hid hp
      have HX : Hid (a.flatMap edF ++ (b.take (k2 + 1)).flatMap edS = a.flatMap edF ++ (b.take k2).flatMap edS) := by unfold Hid; rw [HED.out]; unfold edS; rw [hp]; simp
      clear hp
      go_wp2_with fail
      rw [← hwa]
      clear hwa
      refine (proper_val HP.out _).mono ?_
      rintro e w2 ⟨rfl, g2⟩
      have INV2 : Hid (EdInv w (a.flatMap edF ++ (b.take (k2 + 1)).flatMap edS) Al j cl w2) := by unfold Hid; rw [HX.out]; exact ⟨own_grew INV.out.own (ga.trans g2), INV.out.len, INV.out.grew.trans (ga.trans g2)⟩
      clear ga g2 INV
      go_wp2_with fail
      go_roundw
      case rel => exact ⟨k2 + 1, Al, j, cl, by omega, by omega, by go_num, rfl, INV2⟩
      case measure => simp [intOf]; omega
     | true =>
      have HP := Lib.hid hp
      have HX : Hid (a.flatMap edF ++ (b.take (k2 + 1)).flatMap edS = (a.flatMap edF ++ (b.take k2).flatMap edS) ++ [⟨s1, 0, 1⟩, ⟨s2, 0, -1⟩]) := by unfold Hid; rw [HED.out]; unfold edS; rw [hp]; simp
      clear hp
      go_wp2_with fail
      rw [← hwa]
      clear hwa
      refine (proper_val HP.out _).mono ?_
      rintro e w2 ⟨rfl, g2⟩
      replace e1 := g2.cell e1
      replace e2 := g2.cell e2
      have g02 := INV.out.grew.trans (ga.trans g2)
      have O2 := Lib.hid (own_grew INV.out.own (ga.trans g2))
      have hle := g02.le
      have BI : Hid (Sl (w2.alloc (.cells #[.int .i64 s1, .int .i64 0, .int .i64 1, .int .i64 s2, .int .i64 0, .int .i64 (-1)] 244)) 3 (some ⟨w2.heap.size, 0, none⟩) 2 2 (flatE [⟨s1, 0, 1⟩, ⟨s2, 0, -1⟩])) := built 3 2 _ _ rfl rfl (by decide)
      go_wp2_with (at_builtin; refine wpList_append_sl _ rfl (.tmp 36) (.tmp 43) 241 rfl w.heap.size 244 i0 (.agg #[.int .i64 0, .int .i64 0, .int .i64 0]) 3 24 Tryz.underlying241 hi hz0 hz1 hz2 rfl (by decide) (.slice Al j cl) j _ rfl (O2.out.alloc _) (some ⟨w2.heap.size, 0, none⟩) 2 2 _ rfl BI.out (flatE_one _) (by unfold maxLen; omega) (by omega) (by simp; omega) ?_; intro v3 w3 own3 hg3 hat3; obtain ⟨A3, c3, rfl⟩ := own_form own3)
      have INV2 : Hid (EdInv w (a.flatMap edF ++ (b.take (k2 + 1)).flatMap edS) A3 (j + 2) c3 w3) := by
       unfold Hid
       rw [HX.out]
       exact ⟨by rw [flatE_append]; exact own3, by rw [List.length_append, INV.out.len]; rfl, (g02.alloc _).grown hg3 (fun q hq => (O2.out.lt q hq).1)⟩
      clear ga g2 INV own3 hg3 hat3 BI O2 e1 e2
      go_roundw
      case rel => exact ⟨k2 + 1, A3, j + 2, c3, by omega, by omega, by go_num, rfl, INV2⟩
      case measure => simp [intOf]; omega
    ·obtain rfl : k2 = m := by omega
     have INV2 : Hid (EdInv w (edges a b) Al j cl wr) := by
      have := INV.out
      rw [List.take_of_length_le (by rw [HB.out.1]; omega)] at this
      exact this
     have hj8 : j ≤ 8000 := by omega
     clear INV
     rcases Al with _ | ad
     ·have hc0 : j = 0 ∧ cl = 0 := (Sl.own INV2.out.own).2.2.2.2 rfl
      obtain ⟨rfl, rfl⟩ := hc0
      have hE : Hid (edges a b = []) := List.eq_nil_of_length_eq_zero INV2.out.len
      go_wp2_with fail
      refine (sortBy_none _ _).mono ?_
      rintro e w2 ⟨rfl, g2⟩
      go_wp2_with fail
      go_ret
      rw [hE.out]
      exact ⟨none, 0, 0, [], rfl, List.Perm.refl _, List.Pairwise.nil, ⟨rfl, fun h => absurd h (by decide)⟩, by decide, INV2.out.grew.trans g2⟩
     ·obtain ⟨g, hg1, hg2, hg3⟩ : ∃ g, some ad = some ⟨g, 0, none⟩ ∧ w.heap.size ≤ g ∧ g < wr.heap.size := by
       rcases INV2.out.own.2 with ⟨hv, _⟩ | ⟨g, cap, cur, hv, hb, hg, _⟩
       ·cases hv
       ·injection hv with hv
        exact ⟨g, hv, hb, (Array.getElem?_eq_some_iff.1 hg).1⟩
      injection hg1 with hg1
      subst hg1
      go_wp2_with fail
      refine (sortBy_some g j cl (edges a b) _ INV2.out.own INV2.out.len (by omega) w INV2.out.grew hg2 hg3).mono ?_
      rintro e w2 ⟨rfl, E', p1, p2, p3, p4⟩
      have Q1 := Lib.hid p1
      have Q2 := Lib.hid p2
      have Q3 := Lib.hid p3
      have Q4 := Lib.hid p4
      clear p1 p2 p3 p4 INV2
      go_wp2_with fail
      go_ret
      exact ⟨_, j, cl, E', rfl, Q1.out, Q2.out, Q3.out, by omega, Q4.out⟩
end Go.Proofs.YtnnbibmmofnkdaaGreat
namespace Go.Proofs.YtnnbibmmofnkdaaGreat
open Go.RowKit Go.Proofs WageMem WageSpan
theorem ed_small {a b : List Sp} {E : List Ed} (hp : E.Perm (edges a b)) : ∀ e ∈ E, (-1 ≤ e.fi ∧ e.fi ≤ 1) ∧ (-1 ≤ e.se ∧ e.se ≤ 1) ∧ -1152921504606846976 ≤ e.off ∧ e.off ≤ 1152921504606846976 := by
 intro e he
 have hm := hp.mem_iff.1 he
 refine ⟨?_, ?_, edges_bound a b e hm⟩
 all_goals
  unfold edges at hm
  rcases List.mem_append.1 hm with h | h
  ·obtain ⟨s, _, hs⟩ := List.mem_flatMap.1 h
   unfold edF at hs
   split at hs
   ·rcases List.mem_cons.1 hs with rfl | hs
    ·refine ⟨?_, ?_⟩ <;> simp
    ·rcases List.mem_cons.1 hs with rfl | hs
     ·refine ⟨?_, ?_⟩ <;> simp
     ·simp at hs
   ·simp at hs
  ·obtain ⟨s, _, hs⟩ := List.mem_flatMap.1 h
   unfold edS at hs
   split at hs
   ·rcases List.mem_cons.1 hs with rfl | hs
    ·refine ⟨?_, ?_⟩ <;> simp
    ·rcases List.mem_cons.1 hs with rfl | hs
     ·refine ⟨?_, ?_⟩ <;> simp
     ·simp at hs
   ·simp at hs
/-- What the loop of sweep keeps. -/
structure SwInv (w : World) (bf : Bool → Bool → Bool) (E : List Ed) (k : Nat) (R : List Sp) (f s : Int) (op : Bool) (st : Int) (Al : Option Addr) (j cl : Nat) (W : World) : Prop where
 own : W.ownsRow w.heap.size 28 2 (.slice Al j cl) j (flat R)
 len : R.length = j
 rest : R ++ swp bf (E.drop k) f s op st = swp bf E 0 0 false 0
 in64 : In64 R
 grew : Grew w W
theorem in64_snoc {R : List Sp} (h : In64 R) {a b : Int} (ha : -1152921504606846976 ≤ a ∧ a ≤ 1152921504606846976) (hb : -1152921504606846976 ≤ b ∧ b ≤ 1152921504606846976) : In64 (R ++ [(a, b)]) := by
 intro s hs
 rcases List.mem_append.1 hs with hs | hs
 ·exact h s hs
 ·simp at hs; subst hs; exact ⟨⟨by show _ ≤ a; omega, by show a ≤ _; omega⟩, by show _ ≤ b; omega, by show b ≤ _; omega⟩
theorem swp_same {bf : Bool → Bool → Bool} {e : Ed} {E : List Ed} {f s : Int} {op : Bool} {st : Int} (h : sameNext e E = true) : swp bf (e :: E) f s op st = swp bf E (f + e.fi) (s + e.se) op st := by
 rw [swp, if_pos h]
theorem swp_on {bf : Bool → Bool → Bool} {e : Ed} {E : List Ed} {f s : Int} {op : Bool} {st : Int} (h : sameNext e E = false) (hi : bf (decide (0 < f + e.fi)) (decide (0 < s + e.se)) = op) : swp bf (e :: E) f s op st = swp bf E (f + e.fi) (s + e.se) op st := by
 rw [swp, h, hi]; simp
theorem swp_close {bf : Bool → Bool → Bool} {e : Ed} {E : List Ed} {f s : Int} {st : Int} (h : sameNext e E = false) (hi : bf (decide (0 < f + e.fi)) (decide (0 < s + e.se)) = false) : swp bf (e :: E) f s true st = (st, e.off) :: swp bf E (f + e.fi) (s + e.se) false e.off := by
 rw [swp, h, hi]; simp
theorem swp_open {bf : Bool → Bool → Bool} {e : Ed} {E : List Ed} {f s : Int} {st : Int} (h : sameNext e E = false) (hi : bf (decide (0 < f + e.fi)) (decide (0 < s + e.se)) = true) : swp bf (e :: E) f s false st = swp bf E (f + e.fi) (s + e.se) true e.off := by
 rw [swp, h, hi]; simp
theorem same_next {E : List Ed} {k : Nat} {e e2 : Ed} (h2 : E[k + 1]? = some e2) : sameNext e (E.drop (k + 1)) = (e2.off == e.off) := by
 obtain ⟨hl, rfl⟩ := List.getElem?_eq_some_iff.1 h2
 rw [List.drop_eq_getElem_cons hl]; rfl
theorem same_last {E : List Ed} {k : Nat} {e : Ed} (h : E.length ≤ k + 1) : sameNext e (E.drop (k + 1)) = false := by
 rw [List.drop_of_length_le h]; rfl
theorem drop_at {E : List Ed} {k : Nat} {e : Ed} (h : E[k]? = some e) : E.drop k = e :: E.drop (k + 1) := by
 obtain ⟨hl, rfl⟩ := List.getElem?_eq_some_iff.1 h
 exact List.drop_eq_getElem_cons hl
set_option maxRecDepth 100000 in
set_option maxHeartbeats 8000000 in
theorem sweep_any (gf : Nat) (bf : Bool → Bool → Bool) (h0 : bf false false = false) (eg : ∀ args w, (callFunc gf args).run Tryz.prog w = .ok (.enter gf args) w)
  (hgf : ∀ (x y t : Bool) (w : World), bf x y = t → Calls Tryz.prog gf #[.bool x, .bool y] w fun e w' => e = .returned (.bool t) ∧ w = w')
  (A B : Option Addr) (n m c e : Nat) (a b : List Sp) (w : World) (ha : Spans w A n c a) (hb : Spans w B m e b) (hn : n ≤ 2000) (hm : m ≤ 2000) :
  Calls Tryz.prog 115 #[.slice A n c, .slice B m e, .func (.func gf) #[] #[]] w (RetS (nf bf a b) w) := by
 obtain ⟨i0, hi, hz0, hz1, hz2⟩ := info_parts info28
 have HG := Lib.hid hgf
 have HA := Lib.hid ha
 have HB := Lib.hid hb
 clear hgf ha hb
 go_enter Tryz.func115, Tryz.ntmps115
 go_wp2_with fail
 refine (edges_any A B n m c e a b _ HA.out HB.out hn hm).mono ?_
 rintro e1 w1 ⟨Ae, ne, ce, E, rfl, p1, p2, p3, hne, g1⟩
 have HS := Lib.hid (ed_small p1)
 have HQ := Lib.hid (swp_eq h0 p1 p2)
 have HE := Lib.hid p3
 clear p1 p2 p3
 go_wp2_with fail
 go_loopw [8, 9, 10, 11, 12, 21] (fun v8 v9 v10 v11 v12 i wr => ∃ (k : Nat) (R : List Sp) (f s : Int) (op : Bool) (st : Int) (Al : Option Addr) (j cl : Nat), k ≤ ne ∧ j ≤ k ∧ (-k ≤ f ∧ f ≤ k) ∧ (-k ≤ s ∧ s ≤ k) ∧ (-1152921504606846976 ≤ st ∧ st ≤ 1152921504606846976) ∧
   v8 = .slice Al j cl ∧ v9 = .int .i64 f ∧ v10 = .int .i64 s ∧ v11 = .bool op ∧ v12 = .int .i64 st ∧ i = .int .i64 k ∧ Hid (SwInv w1 bf E k R f s op st Al j cl wr)) (fun _ _ _ _ _ i _ => ne - (intOf i).toNat)
 case atStart => exact ⟨0, [], 0, 0, false, 0, none, 0, 0, Nat.zero_le _, Nat.le_refl _, by omega, by omega, by omega, rfl, rfl, rfl, rfl, rfl, rfl, ⟨World.ownsRow_nil _ _ _ _, rfl, rfl, fun s hs => by simp at hs, Grew.refl _⟩⟩
 case round =>
  obtain ⟨k, R, f, s, op, st, Al, j, cl, hk, hj, hf, hsb, hst, rfl, rfl, rfl, rfl, rfl, rfl, INV⟩ := hrel
  by_cases hlt : k < ne
  ·have hl : k < E.length := by rw [HE.out.1]; exact hlt
   obtain ⟨ed, hed⟩ : ∃ ed, E[k]? = some ed := ⟨_, List.getElem?_eq_getElem hl⟩
   obtain ⟨g, rfl, hc⟩ := (HE.out.grew INV.out.grew).2 (by omega)
   obtain ⟨c1, c2, c3⟩ := hc k ed hed
   have hsm := HS.out ed (List.mem_of_getElem? hed)
   have hdr := drop_at hed
   have HD := Lib.hid hdr
   have hrest := INV.out.rest
   rw [hdr] at hrest
   have HR := Lib.hid hrest
   obtain ⟨eo, ef, es⟩ := ed
   simp only at c1 c2 c3 hsm
   obtain ⟨u1, u2, u3, u4⟩ := hsm
   have i0' : (0 : Int) ≤ (k : Int) := by omega
   have i1' : (k : Int) < (ne : Int) := by omega
   obtain ⟨wa, hwa⟩ : ∃ x, x = wr.alloc (.cells #[.int .i64 eo, .int .i64 ef, .int .i64 es] 244) := ⟨_, rfl⟩
   have ga : Grew wr wa := by rw [hwa]; exact (Grew.refl wr).alloc _
   have x0 : wa.cell? ⟨wr.heap.size, 0, none⟩ = some (.int .i64 eo) := by rw [hwa]; simp
   have x1 : wa.cell? ⟨wr.heap.size, 1, none⟩ = some (.int .i64 ef) := by rw [hwa]; simp
   have x2 : wa.cell? ⟨wr.heap.size, 2, none⟩ = some (.int .i64 es) := by rw [hwa]; simp
   have w9 : IntKind.i64.wrap ((k : Int) + 1) = (k : Int) + 1 := IntWalk.i64_in _ (by omega)
   have w8 : ((k : Int) + 1).toNat = k + 1 := by omega
   have w7 : (0 : Int) ≤ (k : Int) + 1 := by omega
   obtain ⟨sn, hsn⟩ : ∃ sn, sameNext ⟨eo, ef, es⟩ (E.drop (k + 1)) = sn := ⟨_, rfl⟩
   have HSN := Lib.hid hsn
   have hcase : (decide ((k : Int) + 1 < ne) = false ∧ sn = false) ∨ (decide ((k : Int) + 1 < ne) = true ∧ (k : Int) + 1 < (ne : Int) ∧ ∃ eo2, wa.cell? ⟨g, (k + 1) * 3, none⟩ = some (.int .i64 eo2) ∧ (eo2 == eo) = sn) := by
    by_cases q : k + 1 < ne
    ·obtain ⟨e2, he2⟩ : ∃ e2, E[k + 1]? = some e2 := ⟨_, List.getElem?_eq_getElem (by rw [HE.out.1]; exact q)⟩
     refine .inr ⟨decide_eq_true (by omega), by omega, e2.off, ga.cell (hc (k + 1) e2 he2).1, ?_⟩
     rw [← hsn, same_next he2]
    ·exact .inl ⟨decide_eq_false (by omega), by rw [← hsn]; exact same_last (by rw [HE.out.1]; omega)⟩
   clear hed hc hdr hrest hsn hl
   have GA := Lib.hid ga
   go_upto_region 11 with (fail)
   rw [← hwa]
   clear hwa ga
   go_cut [49] (fun s49 wx => s49 = .bool sn ∧ Hid (Grew wa wx))
   case first =>
    rcases hcase with ⟨t1, rfl⟩ | ⟨t1, t2, eo2, t3, t4⟩
    ·go_quiet (fail)
     go_wp2_with fail
     go_meet
     exact ⟨rfl, (Grew.refl wa).drewN _⟩
    ·go_quiet (fail)
     go_wp2_with fail
     go_meet
     exact ⟨rfl, (Grew.refl wa).drewN _⟩
   case rest =>
    obtain ⟨rfl, GC⟩ := hcut
    obtain ⟨wb, rfl⟩ : ∃ wb : World, wb = wc := ⟨_, rfl⟩
    replace x0 := GC.out.cell x0
    have gt := GA.out.trans GC.out
    have g0b := INV.out.grew.trans gt
    have OB := Lib.hid (own_grew INV.out.own gt)
    clear hcase x1 x2 w9 w8 w7 GC GA
    cases sn with
    | true =>
     have INV2 : Hid (SwInv w1 bf E (k + 1) R (f + ef) (s + es) op st Al j cl wb) := ⟨OB.out, INV.out.len, by rw [← HR.out, swp_same HSN.out], INV.out.in64, g0b⟩
     clear INV OB gt g0b c1 c2 c3 x0
     go_wp2_with fail
     go_roundw
     case rel => exact ⟨k + 1, R, f + ef, s + es, op, st, Al, j, cl, by omega, by omega, by omega, by omega, by omega, rfl, rfl, rfl, rfl, rfl, by go_num, INV2⟩
     case measure => simp [intOf]; omega
    | false =>
     obtain ⟨ins, hins⟩ : ∃ ins, bf (decide (0 < f + ef)) (decide (0 < s + es)) = ins := ⟨_, rfl⟩
     have HI := Lib.hid hins
     clear hins c1 c2 c3
     go_wp2_with fail
     refine (HG.out _ _ _ _ HI.out).mono ?_
     rintro e2 _ ⟨rfl, rfl⟩
     cases op with
     | true =>
      cases ins with
      | true =>
       have INV2 : Hid (SwInv w1 bf E (k + 1) R (f + ef) (s + es) true st Al j cl wb) := ⟨OB.out, INV.out.len, by rw [← HR.out, swp_on HSN.out HI.out], INV.out.in64, g0b⟩
       clear INV OB gt g0b x0
       go_wp2_with fail
       go_roundw
       case rel => exact ⟨k + 1, R, f + ef, s + es, true, st, Al, j, cl, by omega, by omega, by omega, by omega, by omega, rfl, rfl, rfl, rfl, rfl, by go_num, INV2⟩
       case measure => simp [intOf]; omega
      | false =>
       have hle := g0b.le
       have hown : some wr.heap.size ≠ (Value.slice Al j cl).ownBlock := fun h => by have := (INV.out.own.lt _ h.symm).2; omega
       have HOWN := Lib.hid hown
       clear hown
       have BI : Hid (Sl (wb.alloc (.cells #[.int .i64 st, .int .i64 eo] 28)) 2 (some ⟨wb.heap.size, 0, none⟩) 1 1 (flat [(st, eo)])) := built 2 1 _ _ rfl rfl (by decide)
       go_wp2_with (at_builtin; refine wpList_append_sl _ rfl (.tmp 60) (.tmp 65) 54 rfl w1.heap.size 28 i0 (.agg #[.int .i64 0, .int .i64 0]) 2 16 Tryz.underlying54 hi hz0 hz1 hz2 rfl (by decide) (.slice Al j cl) j _ rfl (OB.out.alloc _) (some ⟨wb.heap.size, 0, none⟩) 1 1 _ rfl BI.out (flat_one _) (by unfold maxLen; omega) (by omega) (by simp; omega) ?_; intro v3 w3 own3 hg3 hat3; obtain ⟨A3, c3, rfl⟩ := own_form own3; replace x0 := hg3.cell (((Grew.refl wb).alloc (.cells #[.int .i64 st, .int .i64 eo] 28)).cell x0) HOWN.out)
       have INV2 : Hid (SwInv w1 bf E (k + 1) (R ++ [(st, eo)]) (f + ef) (s + es) false eo A3 (j + 1) c3 w3) := by
        refine ⟨by rw [flat_append]; exact own3, by rw [List.length_append, INV.out.len]; rfl, ?_, in64_snoc INV.out.in64 hst ⟨u3, u4⟩, (g0b.alloc _).grown hg3 (fun q hq => (OB.out.lt q hq).1)⟩
        rw [← HR.out, swp_close HSN.out HI.out, List.append_assoc]; rfl
       clear INV OB gt g0b own3 hg3 hat3 BI HOWN
       go_roundw
       case rel => exact ⟨k + 1, _, f + ef, s + es, false, eo, A3, j + 1, c3, by omega, by omega, by omega, by omega, by omega, rfl, rfl, rfl, rfl, rfl, by go_num, INV2⟩
       case measure => simp [intOf]; omega
     | false =>
      cases ins with
      | false =>
       have INV2 : Hid (SwInv w1 bf E (k + 1) R (f + ef) (s + es) false st Al j cl wb) := ⟨OB.out, INV.out.len, by rw [← HR.out, swp_on HSN.out HI.out], INV.out.in64, g0b⟩
       clear INV OB gt g0b x0
       go_wp2_with fail
       go_roundw
       case rel => exact ⟨k + 1, R, f + ef, s + es, false, st, Al, j, cl, by omega, by omega, by omega, by omega, by omega, rfl, rfl, rfl, rfl, rfl, by go_num, INV2⟩
       case measure => simp [intOf]; omega
      | true =>
       have INV2 : Hid (SwInv w1 bf E (k + 1) R (f + ef) (s + es) true eo Al j cl wb) := ⟨OB.out, INV.out.len, by rw [← HR.out, swp_open HSN.out HI.out], INV.out.in64, g0b⟩
       clear INV OB gt g0b
       go_wp2_with fail
       go_roundw
       case rel => exact ⟨k + 1, R, f + ef, s + es, true, eo, Al, j, cl, by omega, by omega, by omega, by omega, by omega, rfl, rfl, rfl, rfl, rfl, by go_num, INV2⟩
       case measure => simp [intOf]; omega
  ·obtain rfl : k = ne := by omega
   have HF : Hid (R = nf bf a b) := by
    have := INV.out.rest
    rw [List.drop_of_length_le (by rw [HE.out.1]; omega), show swp bf [] f s op st = [] from rfl, List.append_nil, HQ.out] at this
    exact this
   go_wp2_with fail
   go_ret
   rw [← HF.out]
   exact ⟨Al, j, cl, rfl, INV.out.len, INV.out.in64, own_base INV.out.own g1.le, g1.trans INV.out.grew⟩
end Go.Proofs.YtnnbibmmofnkdaaGreat
namespace Go.Proofs.YtnnbibmmofnkdaaGreat
open Go.RowKit Go.Proofs WageMem WageSpan
theorem takes_eq {α : Type} {xs ys : List α} {k : Nat} {x y : α} (hx : xs[k]? = some x) (hy : ys[k]? = some y) (h : xs.take k = ys.take k) (hxy : x = y) : xs.take (k + 1) = ys.take (k + 1) := by
 rw [List.take_add_one, List.take_add_one, hx, hy, h, hxy]
theorem eg154 : ∀ args w, (callFunc 154 args).run Tryz.prog w = .ok (.enter 154 args) w := enters_of Tryz.func154 (by kernel_rfl) rfl
theorem eg116 : ∀ args w, (callFunc 116 args).run Tryz.prog w = .ok (.enter 116 args) w := enters_of Tryz.func116 (by kernel_rfl) rfl
theorem fst_any (x y t : Bool) (w : World) (h : fstB x y = t) : Calls Tryz.prog 154 #[.bool x, .bool y] w fun e w' => e = .returned (.bool t) ∧ w = w' := by
 subst h
 cases x <;> cases y <;> (go_enter Tryz.func154, Tryz.ntmps154; go_wp2; go_ret; exact ⟨rfl, rfl⟩)
theorem and_any (x y t : Bool) (w : World) (h : andB x y = t) : Calls Tryz.prog 116 #[.bool x, .bool y] w fun e w' => e = .returned (.bool t) ∧ w = w' := by
 subst h
 cases x <;> cases y <;> (go_enter Tryz.func116, Tryz.ntmps116; go_wp2; go_ret; exact ⟨rfl, rfl⟩)
section
variable {A B : Option Addr} {n m c e : Nat} {a b : List Sp} {w : World}
theorem normal_any (ha : Spans w A n c a) (hn : n ≤ 2000) : Calls Tryz.prog 134 #[.slice A n c] w (RetS (nrm a) w) := by
 have HA := Lib.hid ha
 clear ha
 go_enter Tryz.func134, Tryz.ntmps134
 go_wp2_with fail
 refine (sweep_any 154 fstB rfl eg154 fst_any A none n 0 c 0 a [] _ HA.out Spans.none_ hn (by omega)).mono ?_
 rintro e1 w1 ⟨A1, n1, c1, rfl, h1, h2, h3, g1⟩
 go_wp2_with fail
 go_ret
 exact ⟨A1, n1, c1, rfl, h1, h2, h3, g1⟩
theorem meet_any (ha : Spans w A n c a) (hb : Spans w B m e b) (hn : n ≤ 2000) (hm : m ≤ 2000) : Calls Tryz.prog 73 #[.slice A n c, .slice B m e] w (RetS (meet a b) w) := by
 have HA := Lib.hid ha
 have HB := Lib.hid hb
 clear ha hb
 go_enter Tryz.func73, Tryz.ntmps73
 go_wp2_with fail
 refine (sweep_any 116 andB rfl eg116 and_any A B n m c e a b _ HA.out HB.out hn hm).mono ?_
 rintro e1 w1 ⟨A1, n1, c1, rfl, h1, h2, h3, g1⟩
 go_wp2_with fail
 go_ret
 exact ⟨A1, n1, c1, rfl, h1, h2, h3, g1⟩
end
/-- A contract's end: a slice that reads so. -/
def RetR (ss : List Sp) (w : World) (r : Ending) (w' : World) : Prop := ∃ A n c, r = .returned (.slice A n c) ∧ Spans w' A n c ss ∧ Grew w w'
theorem RetS.read {ss : List Sp} {w : World} {r : Ending} {w' : World} (h : RetS ss w r w') : RetR ss w r w' := by
 obtain ⟨A, n, c, e, h1, h2, h3, g⟩ := h
 exact ⟨A, n, c, e, Spans.own h1 h2 h3, g⟩
section
variable {A B : Option Addr} {n m c e : Nat} {a b r : List Sp} {w : World}
theorem normal_val (ha : Spans w A n c a) (hn : n ≤ 2000) (h : nrm a = r) : Calls Tryz.prog 134 #[.slice A n c] w (RetR r w) := by subst h; exact (normal_any ha hn).mono fun _ _ h => h.read
theorem meet_val (ha : Spans w A n c a) (hb : Spans w B m e b) (hn : n ≤ 2000) (hm : m ≤ 2000) (h : meet a b = r) : Calls Tryz.prog 73 #[.slice A n c, .slice B m e] w (RetR r w) := by subst h; exact (meet_any ha hb hn hm).mono fun _ _ h => h.read
end
set_option maxHeartbeats 1000000 in
theorem valid_any (A : Option Addr) (n c : Nat) (ss : List Sp) (w : World) (h : Spans w A n c ss) (hn2 : n ≤ 2000) :
  Calls Tryz.prog 102 #[.slice A n c] w fun r w' => r = .returned (.bool (decide (nrm ss = ss))) ∧ Grew w w' := by
 have hn := h.1
 obtain ⟨ys, hys⟩ : ∃ ys, nrm ss = ys := ⟨_, rfl⟩
 rw [hys]
 have HY := Lib.hid hys
 have HH := Lib.hid h
 have HN := Lib.hid hn
 clear hys h hn
 go_enter Tryz.func102, Tryz.ntmps102
 go_wp2_with fail
 refine (normal_val HH.out hn2 HY.out).mono ?_
 rintro e1 w1 ⟨B, m, e, rfl, hB, g1⟩
 have HB := Lib.hid hB
 have hm := hB.1
 have G1 := Lib.hid g1
 have HHW := Lib.hid (HH.out.grew g1)
 have hn := HN.out
 clear hB g1 HN HY HH
 by_cases hne : m = n
 ·subst hne
  have t0 : ((m : Int) != (m : Int)) = false := by simp
  have HN := Lib.hid hn
  have HM := Lib.hid hm
  clear hn hm
  go_wp2_with fail
  go_loopw [14] (fun i wr => ∃ k : Nat, k ≤ m ∧ i = .int .i64 k ∧ Hid (ys.take k = ss.take k) ∧ ∃ q, wr = w1.drewN q) (fun i _ => m - (intOf i).toNat)
  case atStart => exact ⟨0, Nat.zero_le _, rfl, rfl, 0, rfl⟩
  case round =>
   obtain ⟨k, hk, rfl, HE, q, rfl⟩ := hrel
   by_cases hlt : k < m
   ·obtain ⟨b1, o1, x, rfl, hx, c1, c2, bx1, bx2⟩ := HHW.out.at_ hlt
    obtain ⟨b2, o2, y, rfl, hy, c3, c4, by1, by2⟩ := HB.out.at_ hlt
    have i0 : (0 : Int) ≤ (k : Int) := by omega
    have i1 : (k : Int) < (m : Int) := by omega
    have HX := Lib.hid hx
    have HY := Lib.hid hy
    obtain ⟨x1, x2⟩ := x
    obtain ⟨y1, y2⟩ := y
    clear hx hy
    simp only at c1 c2 c3 c4
    by_cases hxy : (x1, x2) = (y1, y2)
    ·have HXY := Lib.hid hxy
     have q1 := neq28
     have q2 := guard28
     have q3 : eqS x1 x2 y1 y2 = true := decide_eq_true hxy
     clear hxy
     go_wp2_with fail
     go_quiet (fail)
     go_wp2_with fail
     go_roundw
     case rel => exact ⟨k + 1, by omega, by go_num, takes_eq HY.out HX.out HE.out HXY.out.symm, _, rfl⟩
     case measure => simp [intOf]; omega
    ·have HNE : Hid (ys ≠ ss) := by unfold Hid; intro h; rw [h, HX.out] at HY; have := HY.out; injection this with this; exact hxy this
     have q1 := neq28
     have q2 := guard28
     have q3 : eqS x1 x2 y1 y2 = false := decide_eq_false hxy
     clear hxy
     go_wp2_with fail
     go_quiet (fail)
     go_wp2_with fail
     go_ret
     exact ⟨by rw [decide_eq_false HNE.out]; rfl, (G1.out.drewN _).drewN _⟩
   ·have hfin : Hid (ys = ss) := by
     have := HE.out
     rw [List.take_of_length_le (by rw [HM.out]; omega), List.take_of_length_le (by rw [HN.out]; omega)] at this
     exact this
    go_wp2_with fail
    go_ret
    exact ⟨by rw [decide_eq_true hfin.out]; rfl, G1.out.drewN _⟩
 ·have t0 : ((m : Int) != (n : Int)) = true := by rw [bne_iff_ne]; omega
  have HNE : Hid (ys ≠ ss) := by unfold Hid; intro h; rw [h] at hm; omega
  clear hn hm
  go_wp2_with fail
  go_ret
  exact ⟨by rw [decide_eq_false HNE.out]; rfl, G1.out⟩
theorem valid_val {A : Option Addr} {n c : Nat} {ss : List Sp} {w : World} {t : Bool} (h : Spans w A n c ss) (hn2 : n ≤ 2000) (ht : decide (nrm ss = ss) = t) :
  Calls Tryz.prog 102 #[.slice A n c] w fun r w' => r = .returned (.bool t) ∧ Grew w w' := by subst ht; exact valid_any A n c ss w h hn2
end Go.Proofs.YtnnbibmmofnkdaaGreat
