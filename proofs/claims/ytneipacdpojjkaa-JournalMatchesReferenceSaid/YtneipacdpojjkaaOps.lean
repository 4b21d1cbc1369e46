/-
  disk.Sync, Crash, Read, New.
-/
import Derived.Test.YtneipacdpojjkaaKeep
import Derived.Deep.RegionHeld3
namespace Go.Proofs.Ytneipacdpojjkaa
open Go.RowKit Go.Proofs WageMem WageDisk

/-- What is said of w stays true if no block of w from B on is changed. -/
def Fresh (B : Nat) (w : World) (F : World → Prop) : Prop := ∀ W : World, (∀ k, B ≤ k → k < w.heap.size → W.heap[k]? = w.heap[k]?) → F W
theorem Fresh.now {B : Nat} {w : World} {F : World → Prop} (h : Fresh B w F) : F w := h w fun _ _ _ => rfl
theorem Fresh.mono {B B' : Nat} {w : World} {F : World → Prop} (h : Fresh B w F) (hB : B' ≤ B) : Fresh B' w F := fun W hW => h W fun k h1 h2 => hW k (by omega) h2
theorem Fresh.imp {B : Nat} {w : World} {F G : World → Prop} (h : Fresh B w F) (hi : ∀ W, F W → G W) : Fresh B w G := fun W hW => hi W (h W hW)
theorem Fresh.and {B : Nat} {w : World} {F G : World → Prop} (h : Fresh B w F) (k : Fresh B w G) : Fresh B w fun W => F W ∧ G W := fun W hW => ⟨h W hW, k W hW⟩
theorem Fresh.later {B : Nat} {w w' : World} {F : World → Prop} (h : Fresh B w F) (g : Grew w w') : Fresh B w' F := fun W hW => h W fun k h1 h2 => (hW k h1 (Nat.lt_of_lt_of_le h2 g.le)).trans (g.below.block k h2)
theorem Fresh.set {B : Nat} {w : World} {F : World → Prop} (h : Fresh B w F) {p : Addr} (hp : p.block < B) (u : Value) : Fresh B (w.setCell p u) F := fun W hW => h W fun k h1 h2 =>
  (hW k h1 (by simpa [World.setCell] using h2)).trans (Below.heap_setCell w p u k (by omega))
theorem Fresh.const {B : Nat} {w : World} {F : World → Prop} (h : ∀ W, F W) : Fresh B w F := fun W _ => h W
theorem own_fresh {w : World} {base : Nat} {e : TypeId} {size : Nat} {v : Value} {n : Nat} {xs : List Value} (h : w.ownsRow base e size v n xs) : Fresh base w fun W => W.ownsRow base e size v n xs := fun W hW => by
  refine ⟨h.1, ?_⟩
  rcases h.2 with h2 | ⟨g, cap, cur, hv, hg, hb, r⟩
  · exact .inl h2
  · exact .inr ⟨g, cap, cur, hv, hg, (hW g hg (Array.getElem?_eq_some_iff.1 hb).1).trans hb, r⟩

/-- A contract's end: it returns a disk. -/
def RetDisk (d : Ds) (w : World) (r : Ending) (w' : World) : Prop := ∃ A n c A' n' c', r = .returned (.agg #[.slice A n c, .slice A' n' c']) ∧ Fresh w.heap.size w' (fun W => Disk W (.agg #[.slice A n c, .slice A' n' c']) d) ∧ Grew w w'
/-- A contract's end: it returns a disk and an error's number. -/
def RetDiskE (d : Ds) (e : Int) (w : World) (r : Ending) (w' : World) : Prop := ∃ A n c A' n' c', r = .returned (.tuple #[.agg #[.slice A n c, .slice A' n' c'], .int .i64 e]) ∧ Fresh w.heap.size w' (fun W => Disk W (.agg #[.slice A n c, .slice A' n' c']) d) ∧ Grew w w'
/-- A contract's end: it returns bytes and an error's number. -/
def RetBytesE (bs : List UInt8) (e : Int) (w : World) (r : Ending) (w' : World) : Prop := ∃ A n c, r = .returned (.tuple #[.slice A n c, .int .i64 e]) ∧ Fresh w.heap.size w' (fun W => Bytes W A n c bs) ∧ Grew w w'

theorem Bytes.none {w : World} : Bytes w none 0 0 [] := ⟨rfl, Nat.le_refl _, Nat.zero_le _, rfl, Cells.nil, fun _ => ⟨rfl, rfl⟩⟩
theorem Writes.none {w : World} : Writes w none 0 0 [] := ⟨rfl, Nat.le_refl _, Nat.zero_le _, fun _ => ⟨rfl, rfl⟩, fun h => absurd h (by decide)⟩
theorem Disk.mk_ {w : World} {A : Option Addr} {n c : Nat} {A' : Option Addr} {n' c' : Nat} {d : Ds} (h1 : Bytes w A n c d.st) (h2 : Writes w A' n' c' d.pe) : Disk w (.agg #[.slice A n c, .slice A' n' c']) d :=
  ⟨A, n, c, A', n', c', rfl, h1, h2⟩
theorem applyTo_length {ch : Nat → Nat → Nat} (hch : ∀ i n, ch i n ≤ n) (m : Nat) : ∀ (pe : List Wr) (st : List UInt8) (i : Nat), st.length = m → (∀ x ∈ pe, 0 ≤ x.off ∧ x.off + x.data.length ≤ m) → (applyTo ch st i pe).length = m
  | [], st, i, h, _ => h
  | x :: pe, st, i, h, hp => by
    have hx := hp x (by simp)
    have hl : (x.data.take (ch i x.data.length)).length ≤ x.data.length := by rw [List.length_take]; omega
    exact applyTo_length hch m pe _ _ (by rw [over_length (by omega), h]) (fun y hy => hp y (by simp [hy]))
theorem apply_len {d : Ds} (h : validB d = true) {ch : Nat → Nat → Nat} (hch : ∀ i n, ch i n ≤ n) : (applyTo ch d.st 0 d.pe).length = d.st.length :=
  applyTo_length hch _ d.pe d.st 0 rfl fun x hx => by
    obtain ⟨k, hk⟩ := List.getElem?_of_mem hx
    exact valid_in h hk

theorem blk_cell {w : World} {g : Nat} {t : TypeId} {cs : Array Value} (h : w.heap[g]? = some (.cells cs t (0, 0))) (i : Nat) : w.cell? ⟨g, i, none⟩ = cs[i]? := cell_of_row w g i cs t (0, 0) h
theorem blk_frozen {w : World} {g : Nat} {t : TypeId} {cs : Array Value} (h : w.heap[g]? = some (.cells cs t (0, 0))) (i : Nat) : w.frozen? ⟨g, i, none⟩ = false := by simp [World.frozen?, h]
theorem blk_new2 (w : World) (o : Obj) (cs : Array Value) (t : TypeId) : ((w.alloc o).alloc (.cells cs t)).heap[w.heap.size + 1]? = some (.cells cs t (0, 0)) := by
  have := heap_alloc_new (w.alloc o) (.cells cs t); rwa [World.size_alloc] at this

theorem blk_new1 (w : World) (o : Obj) (cs : Array Value) (t : TypeId) : ((w.alloc (.cells cs t)).alloc o).heap[w.heap.size]? = some (.cells cs t (0, 0)) :=
  (Below.heap_alloc _ _ _ (by simp)).trans (heap_alloc_new w _)
theorem two_set {w : World} {R : Nat} {u u' : Value} (r0 : w.cell? ⟨R, 0, none⟩ = some u) (r1 : w.cell? ⟨R, 1, none⟩ = some u') (x y : Value) :
    ((w.setCell ⟨R, 0, none⟩ x).setCell ⟨R, 1, none⟩ y).cell? ⟨R, 0, none⟩ = some x ∧ ((w.setCell ⟨R, 0, none⟩ x).setCell ⟨R, 1, none⟩ y).cell? ⟨R, 1, none⟩ = some y := by
  refine ⟨(World.cell?_setCell_other _ _ _ _ (by simp)).trans (World.cell?_setCell_same' _ _ _ (by rw [r0]; rfl)), World.cell?_setCell_same' _ _ _ ?_⟩
  rw [World.cell?_setCell_other _ _ _ _ (by simp), r1]; rfl
/-- A store into another block leaves a slice of bytes as it was. -/
theorem _root_.WageMem.Bytes.far {w : World} {A : Option Addr} {n c : Nat} {bs : List UInt8} (h : Bytes w A n c bs) {R i : Nat} (hne : ∀ a, A = some a → 0 < n → a.block ≠ R) (u : Value) : Bytes (w.setCell ⟨R, i, none⟩ u) A n c bs := by
  refine ⟨h.1, h.2.1, h.2.2.1, h.2.2.2.1, fun hx => ?_, h.2.2.2.2.2⟩
  have hn : 0 < n := by
    rcases Nat.eq_zero_or_pos n with h0 | h0
    · exfalso; apply hx; exact List.eq_nil_of_length_eq_zero (by rw [List.length_map, h.1, h0])
    · exact h0
  obtain ⟨b, o, e, hc⟩ := h.2.2.2.2.1 hx
  refine ⟨b, o, e, fun j v hv => ?_⟩
  rw [World.cell?_setCell_other _ _ _ _ (fun e' => hne _ e hn (by injection e' with h1; exact h1.symm))]
  exact hc j v hv
theorem own_ne {w w' : World} {e : TypeId} {A : Option Addr} {n c : Nat} {xs : List Value} (h : w'.ownsRow w.heap.size e 1 (.slice A n c) n xs) {g : Nat} (hg : g < w.heap.size) : ∀ a, A = some a → 0 < n → a.block ≠ g := by
  intro a ha _ hb
  have := (h.lt a.block (by rw [ha]; rfl)).1
  omega

set_option maxHeartbeats 2000000 in
theorem sync_any (v : Value) (d : Ds) (w : World) (h : Disk w v d) : Calls Try.prog 26 #[v] w (RetDisk (syncD d) w) := by
  obtain ⟨A, n, c, A', n', c', rfl, hB, hW⟩ := h.form
  cases hv : validB d with
  | false =>
    have E : Hid (syncD d = emptyD) := by unfold Hid syncD; rw [hv]; rfl
    have HV := Lib.hid hv
    clear hv
    go_enter Try.func26, Try.ntmps26
    go_wp2_with fail
    refine (valid_any _ d _ (h.grew (((Grew.refl w).alloc _).alloc _))).mono ?_
    rw [HV.out]
    rintro e w1 ⟨rfl, g1⟩
    have hr : w1.heap[w.heap.size + 1]? = some (.cells #[.slice none 0 0, .slice none 0 0] 25 (0, 0)) := g1.block (blk_new2 _ _ _ _)
    have r0 := blk_cell hr 0
    have r1 := blk_cell hr 1
    have z0 := blk_frozen hr 0
    have z1 := blk_frozen hr 1
    have gg : Grew w w1 := (((Grew.refl w).alloc _).alloc _).trans g1
    clear hr g1
    go_wp2_with fail
    obtain ⟨q0, q1⟩ := two_set r0 r1 (.slice none 0 0) (.slice none 0 0)
    refine bodyPost_ret (v := .agg #[.slice none 0 0, .slice none 0 0]) (by simp [results, Try.results26, go_sem, q0, q1]) rfl ⟨_, _, _, _, _, _, rfl, ?_, (gg.set (by simp) _).set (by simp) _⟩
    rw [E.out]
    exact Fresh.const fun _ => Disk.mk_ Bytes.none Writes.none
  | true =>
    have E : Hid (syncD d = ⟨applyTo wholeC d.st 0 d.pe, []⟩) := by unfold Hid syncD; rw [hv]; rfl
    have hlen := apply_len hv (ch := wholeC) (fun _ _ => Nat.le_refl _)
    have HL := Lib.hid hlen
    have HV := Lib.hid hv
    clear hv hlen
    go_enter Try.func26, Try.ntmps26
    go_wp2_with fail
    refine (valid_any _ d _ (h.grew (((Grew.refl w).alloc _).alloc _))).mono ?_
    rw [HV.out]
    rintro e w1 ⟨rfl, g1⟩
    have hr : w1.heap[w.heap.size + 1]? = some (.cells #[.slice none 0 0, .slice none 0 0] 25 (0, 0)) := g1.block (blk_new2 _ _ _ _)
    have hd : w1.heap[w.heap.size]? = some (.cells #[.slice A n c, .slice A' n' c'] 25 (0, 0)) := g1.block (blk_new1 _ _ _ _)
    have d0 := blk_cell hd 0
    have d1 := blk_cell hd 1
    have gg : Grew w w1 := (((Grew.refl w).alloc _).alloc _).trans g1
    clear hd g1
    go_wp2_with fail
    refine (apply_whole _ d _ (h.grew gg) HV.out).mono ?_
    rintro e w2 ⟨A5, c5, rfl, own2, g2⟩
    have hr2 := g2.block hr
    have r0 := blk_cell hr2 0
    have r1 := blk_cell hr2 1
    have z0 := blk_frozen hr2 0
    have z1 := blk_frozen hr2 1
    have hB2 : Fresh w1.heap.size w2 fun W => Bytes W A5 d.st.length c5 (applyTo wholeC d.st 0 d.pe) := (own_fresh own2).imp fun W h => Bytes.own HL.out h
    have gg2 := gg.trans g2
    have nz : w.heap.size + 1 < w1.heap.size := World.block_lt_of_cell? _ _ (blk_cell hr 0)
    clear own2 hr hr2
    generalize d.st.length = m at *
    go_wp2_with fail
    obtain ⟨q0, q1⟩ := two_set r0 r1 (.slice A5 m c5) (.slice none 0 0)
    refine bodyPost_ret (v := .agg #[.slice A5 m c5, .slice none 0 0]) (by simp [results, Try.results26, go_sem, q0, q1]) rfl ⟨_, _, _, _, _, _, rfl, ?_, (gg2.set (by simp) _).set (by simp) _⟩
    rw [E.out]
    exact (((hB2.set nz _).set nz _).mono gg.le).imp fun W h => Disk.mk_ h Writes.none

theorem keep_any (A : Option Addr) (n c : Nat) (w : World) :
    Calls Try.prog 49 #[.slice A n c] w fun e w' => e = .returned (.func (.func 55) #[] #[.pointer (some ⟨w.heap.size, 0, none⟩)]) ∧ w' = w.alloc (.cells #[.slice A n c] 26) := by
  go_enter Try.func49, Try.ntmps49
  go_wp2
  go_ret
  exact ⟨rfl, rfl⟩

/-- keep, beside a disk in block D that is loaded. -/
theorem keep_beside (A : Option Addr) (n c : Nat) (w : World) (D : Nat) (u u' : Value) (d0 : w.cell? ⟨D, 0, none⟩ = some u) (d1 : w.cell? ⟨D, 1, none⟩ = some u') :
    Calls Try.prog 49 #[.slice A n c] w fun e w' => e = .returned (.func (.func 55) #[] #[.pointer (some ⟨w.heap.size, 0, none⟩)]) ∧ w'.cell? ⟨D, 0, none⟩ = some u ∧ w'.cell? ⟨D, 1, none⟩ = some u' ∧
      w'.cell? ⟨w.heap.size, 0, none⟩ = some (.slice A n c) ∧ Grew w w' :=
  (keep_any A n c w).mono fun _ _ ⟨h1, h2⟩ => by
    subst h2
    have g : Grew w (w.alloc (.cells #[.slice A n c] 26)) := (Grew.refl w).alloc _
    exact ⟨h1, g.cell d0, g.cell d1, by simp, g⟩
theorem apply_beside {v : Value} {d : Ds} {w : World} (h : Disk w v d) (hv : validB d = true) {kept : List Int} {Bk : Nat} {Ak : Option Addr} {nk ck : Nat} (hbox : w.cell? ⟨Bk, 0, none⟩ = some (.slice Ak nk ck)) (hK : Ints w Ak nk ck kept)
    {D : Nat} {u u' : Value} (d0 : w.cell? ⟨D, 0, none⟩ = some u) (d1 : w.cell? ⟨D, 1, none⟩ = some u') :
    Calls Try.prog 47 #[v, .func (.func 55) #[] #[.pointer (some ⟨Bk, 0, none⟩)]] w fun e w' => ∃ A5 c5, e = .returned (.slice A5 d.st.length c5) ∧ w'.cell? ⟨D, 0, none⟩ = some u ∧ w'.cell? ⟨D, 1, none⟩ = some u' ∧
      w'.ownsRow w.heap.size 5 1 (.slice A5 d.st.length c5) d.st.length ((applyTo (keptC kept) d.st 0 d.pe).map bv) ∧ Grew w w' :=
  (apply_keep v d w h hv kept Bk Ak nk ck hbox hK).mono fun _ _ ⟨A5, c5, e, o, g⟩ => ⟨A5, c5, e, g.cell d0, g.cell d1, o, g⟩

set_option maxHeartbeats 2000000 in
theorem crash_any (v : Value) (d : Ds) (Ak : Option Addr) (nk ck : Nat) (kept : List Int) (w : World) (h : Disk w v d) (hK : Ints w Ak nk ck kept) : Calls Try.prog 28 #[v, .slice Ak nk ck] w (RetDisk (crashD d kept) w) := by
  obtain ⟨A, n, c, A', n', c', rfl, hB, hW⟩ := h.form
  cases hv : validB d with
  | false =>
    have E : Hid (crashD d kept = emptyD) := by unfold Hid crashD; rw [hv]; rfl
    have HV := Lib.hid hv
    clear hv
    go_enter Try.func28, Try.ntmps28
    go_wp2_with fail
    refine (valid_any _ d _ (h.grew (((Grew.refl w).alloc _).alloc _))).mono ?_
    rw [HV.out]
    rintro e w1 ⟨rfl, g1⟩
    have hr : w1.heap[w.heap.size + 1]? = some (.cells #[.slice none 0 0, .slice none 0 0] 25 (0, 0)) := g1.block (blk_new2 _ _ _ _)
    have r0 := blk_cell hr 0
    have r1 := blk_cell hr 1
    have z0 := blk_frozen hr 0
    have z1 := blk_frozen hr 1
    have gg : Grew w w1 := (((Grew.refl w).alloc _).alloc _).trans g1
    clear hr g1
    go_wp2_with fail
    obtain ⟨q0, q1⟩ := two_set r0 r1 (.slice none 0 0) (.slice none 0 0)
    refine bodyPost_ret (v := .agg #[.slice none 0 0, .slice none 0 0]) (by simp [results, Try.results28, go_sem, q0, q1]) rfl ⟨_, _, _, _, _, _, rfl, ?_, (gg.set (by simp) _).set (by simp) _⟩
    rw [E.out]
    exact Fresh.const fun _ => Disk.mk_ Bytes.none Writes.none
  | true =>
    have E : Hid (crashD d kept = ⟨applyTo (keptC kept) d.st 0 d.pe, []⟩) := by unfold Hid crashD; rw [hv]; rfl
    have hlen := apply_len hv (ch := keptC kept) (keptC_le kept)
    have HL := Lib.hid hlen
    have HV := Lib.hid hv
    clear hv hlen
    go_enter Try.func28, Try.ntmps28
    go_wp2_with fail
    refine (valid_any _ d _ (h.grew (((Grew.refl w).alloc _).alloc _))).mono ?_
    rw [HV.out]
    rintro e w1 ⟨rfl, g1⟩
    have hr : w1.heap[w.heap.size + 1]? = some (.cells #[.slice none 0 0, .slice none 0 0] 25 (0, 0)) := g1.block (blk_new2 _ _ _ _)
    have hd : w1.heap[w.heap.size]? = some (.cells #[.slice A n c, .slice A' n' c'] 25 (0, 0)) := g1.block (blk_new1 _ _ _ _)
    have d0 : w1.cell? ⟨w.heap.size, 0, none⟩ = some (.slice A n c) := blk_cell hd 0
    have d1 : w1.cell? ⟨w.heap.size, 1, none⟩ = some (.slice A' n' c') := blk_cell hd 1
    have gg : Grew w w1 := (((Grew.refl w).alloc _).alloc _).trans g1
    have HD := Lib.hid (h.grew gg)
    have HK := Lib.hid (hK.grew gg)
    clear hd g1
    go_wp2_with fail
    go_region_held3 (fun w' => w'.cell? ⟨w.heap.size, 0, none⟩ = some (.slice A n c) ∧ w'.cell? ⟨w.heap.size, 1, none⟩ = some (.slice A' n' c')) (go_keep)
      (first | (go_at_call 49; refine (keep_beside Ak nk ck w1.drew w.heap.size (.slice A n c) (.slice A' n' c') d0 d1).mono ?_; rintro e w2 ⟨rfl, k0, k1, kb, kg⟩)
             | (go_at_call 47; refine (apply_beside (d := d) ((HD.out.grew (Grew.refl w1).drew).grew kg) HV.out kb ((HK.out.grew (Grew.refl w1).drew).grew kg) k0 k1).mono ?_; rintro e w3 ⟨A5, c5, rfl, j0, j1, own3, g3⟩; have r0 : w3.cell? ⟨w.heap.size + 1, 0, none⟩ = some (.slice none 0 0) := blk_cell (g3.block (kg.block hr)) 0; have r1 : w3.cell? ⟨w.heap.size + 1, 1, none⟩ = some (.slice none 0 0) := blk_cell (g3.block (kg.block hr)) 1; have z0 := blk_frozen (g3.block (kg.block hr)) 0; have z1 := blk_frozen (g3.block (kg.block hr)) 1))
    have hB3 : Fresh w2.heap.size w3 fun W => Bytes W A5 d.st.length c5 (applyTo (keptC kept) d.st 0 d.pe) := (own_fresh own3).imp fun W h => Bytes.own HL.out h
    have gg2 : Grew w w2 := gg.trans ((Grew.refl w1).drew.trans kg)
    have gg3 : Grew w w3 := gg2.trans g3
    have nz : w.heap.size + 1 < w2.heap.size := World.block_lt_of_cell? _ _ (blk_cell (kg.block hr) 0)
    clear own3 hr
    generalize d.st.length = m at *
    go_wp2_with fail
    obtain ⟨q0, q1⟩ := two_set r0 r1 (.slice A5 m c5) (.slice none 0 0)
    refine bodyPost_ret (v := .agg #[.slice A5 m c5, .slice none 0 0]) (by simp [results, Try.results28, go_sem, q0, q1]) rfl ⟨_, _, _, _, _, _, rfl, ?_, (gg3.set (by simp) _).set (by simp) _⟩
    rw [E.out]
    exact (((hB3.set nz _).set nz _).mono gg2.le).imp fun W h => Disk.mk_ h Writes.none

/-- What Read returns. -/
def readB (d : Ds) (off count : Int) : List UInt8 := if validB d && insideB off count d.st.length then ((applyTo wholeC d.st 0 d.pe).drop off.toNat).take count.toNat else []
def readE (d : Ds) (off count : Int) : Int := if validB d && insideB off count d.st.length then 0 else 1

/-- A part of a slice of bytes. -/
theorem _root_.WageMem.Bytes.part {w : World} {A : Option Addr} {n c : Nat} {bs : List UInt8} (h : Bytes w A n c bs) {a m : Nat} (ha : a + m ≤ n) :
    Bytes w (if c = a then A else A.map (fun x => x.add a)) m (c - a) ((bs.drop a).take m) := by
  obtain ⟨hl, h1, h2, h3, h4, h5⟩ := h
  refine ⟨by simp; omega, by omega, by omega, by simp; omega, fun hx => ?_, fun hA => ?_⟩
  · have hm : 0 < m := by
      rcases Nat.eq_zero_or_pos m with h0 | h0
      · subst h0; simp at hx
      · exact h0
    obtain ⟨b, o, e, hc⟩ := h4 (by intro h0; have h6 := congrArg List.length h0; rw [List.length_map, List.length_nil] at h6; omega)
    refine ⟨b, o + a, ?_, fun j u hu => ?_⟩
    · rw [if_neg (by omega), e]
      simp only [Option.map_some, Addr.add]
      split
      · rename_i h0; subst h0; rfl
      · rfl
    · rw [show o + a + j = o + (a + j) by omega]
      refine hc (a + j) u ?_
      rw [List.map_take, List.map_drop, List.getElem?_take] at hu
      split at hu
      · rwa [List.getElem?_drop] at hu
      · cases hu
  · by_cases hca : c = a
    · exact ⟨by omega, by omega⟩
    · rw [if_neg hca] at hA
      have := h5 (by cases A <;> simp_all)
      omega

set_option maxHeartbeats 2000000 in
theorem read_any (v : Value) (d : Ds) (off count : Int) (w : World) (h : Disk w v d) (o0 : -9223372036854775808 ≤ off) (c0 : -9223372036854775808 ≤ count) (o1 : off ≤ 9223372036854775807) (c1 : count ≤ 9223372036854775807) :
    Calls Try.prog 23 #[v, .int .i64 off, .int .i64 count] w (RetBytesE (readB d off count) (readE d off count) w) := by
  obtain ⟨A, n, c, A', n', c', rfl, hB, hW⟩ := h.form
  have hn := hB.1
  cases hv : validB d with
  | false =>
    have E : Hid (readB d off count = [] ∧ readE d off count = 1) := by unfold Hid readB readE; rw [hv]; exact ⟨rfl, rfl⟩
    have HV := Lib.hid hv
    clear hv hn
    go_enter Try.func23, Try.ntmps23
    go_wp2_with fail
    refine (valid_any _ d _ (h.grew ((Grew.refl w).alloc _))).mono ?_
    rw [HV.out]
    rintro e w1 ⟨rfl, g1⟩
    have gg : Grew w w1 := ((Grew.refl w).alloc _).trans g1
    go_wp2_with fail
    go_ret2
    rw [E.out.1, E.out.2]
    exact ⟨none, 0, 0, rfl, Fresh.const fun _ => Bytes.none, gg⟩
  | true =>
    have hvs := valid_size hv
    have s1 : n ≤ 65536 := by omega
    have hlen := apply_len hv (ch := wholeC) (fun _ _ => Nat.le_refl _)
    rw [hn] at hlen
    cases hi : insideB off count n with
    | false =>
      have E : Hid (readB d off count = [] ∧ readE d off count = 1) := by unfold Hid readB readE; rw [hv, hn, hi]; exact ⟨rfl, rfl⟩
      have HV := Lib.hid hv
      have HI := Lib.hid hi
      clear hv hn hvs hlen hi
      go_enter Try.func23, Try.ntmps23
      go_wp2_with fail
      refine (valid_any _ d _ (h.grew ((Grew.refl w).alloc _))).mono ?_
      rw [HV.out]
      rintro e w1 ⟨rfl, g1⟩
      have d0 : w1.cell? ⟨w.heap.size, 0, none⟩ = some (.slice A n c) := g1.cell (by simp)
      have gg : Grew w w1 := ((Grew.refl w).alloc _).trans g1
      go_wp2_with fail
      refine (inside_any off count n _ (by omega) (by omega) o0).mono ?_
      rw [HI.out]
      rintro e _ ⟨rfl, rfl⟩
      go_wp2_with fail
      go_ret2
      rw [E.out.1, E.out.2]
      exact ⟨none, 0, 0, rfl, Fresh.const fun _ => Bytes.none, gg⟩
    | true =>
      have hin := of_decide_eq_true hi
      obtain ⟨i0, i1, i2, i3⟩ := hin
      have E : Hid (readB d off count = ((applyTo wholeC d.st 0 d.pe).drop off.toNat).take count.toNat ∧ readE d off count = 0) := by unfold Hid readB readE; rw [hv, hn, hi]; exact ⟨rfl, rfl⟩
      have HV := Lib.hid hv
      have HI := Lib.hid hi
      have HL := Lib.hid hlen
      have HN := Lib.hid hn
      clear hv hn hvs hlen hi
      go_enter Try.func23, Try.ntmps23
      go_wp2_with fail
      refine (valid_any _ d _ (h.grew ((Grew.refl w).alloc _))).mono ?_
      rw [HV.out]
      rintro e w1 ⟨rfl, g1⟩
      have d0 : w1.cell? ⟨w.heap.size, 0, none⟩ = some (.slice A n c) := g1.cell (by simp)
      have d1 : w1.cell? ⟨w.heap.size, 1, none⟩ = some (.slice A' n' c') := g1.cell (by simp)
      have gg : Grew w w1 := ((Grew.refl w).alloc _).trans g1
      clear g1
      go_wp2_with fail
      refine (inside_any off count n _ (by omega) (by omega) o0).mono ?_
      rw [HI.out]
      rintro e _ ⟨rfl, rfl⟩
      go_wp2_with fail
      refine (apply_whole _ d _ (h.grew gg) HV.out).mono ?_
      rw [HN.out]
      rintro e w2 ⟨A5, c5, rfl, own2, g2⟩
      have hB2 : Bytes w2 A5 n c5 (applyTo wholeC d.st 0 d.pe) := Bytes.own HL.out own2
      have hcc : n ≤ c5 := hB2.2.1
      have hcm : c5 ≤ 9223372036854775807 := hB2.2.2.1
      have hp := hB2.part (a := off.toNat) (m := count.toNat) (by omega)
      have gg2 := gg.trans g2
      clear own2 d0 d1 hB2
      have f1 : 0 ≤ off + count := by omega
      have f2 : off + count ≤ c5 := by omega
      have f3 : off ≤ off + count := by omega
      have hcn : count.toNat ≤ 65536 := by omega
      have hcl := Lib.hid hp.1
      obtain ⟨m, hm⟩ : ∃ m, count.toNat = m := ⟨_, rfl⟩
      have e1 : (off + count).toNat - off.toNat = m := by omega
      obtain ⟨Bp, hBp⟩ : ∃ Bp, (if c5 = off.toNat then A5 else Option.map (fun x => x.add off.toNat) A5) = Bp := ⟨_, rfl⟩
      rw [hm] at hp hcn hcl
      rw [hBp] at hp
      have HM := Lib.hid hm
      clear hm
      go_wp2_with fail
      refine (clone_any Bp m _ _ _ hp hcn).mono ?_
      rintro e w3 ⟨A6, c6, rfl, own3, g3⟩
      clear hBp e1
      go_wp2_with fail
      go_ret2
      rw [E.out.1, E.out.2, HM.out]
      exact ⟨A6, m, c6, rfl, ((own_fresh own3).mono gg2.le).imp fun W h => Bytes.own hcl.out h, gg2.trans g3⟩
end Go.Proofs.Ytneipacdpojjkaa
