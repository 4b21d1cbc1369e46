/-
  The reference implementation of the disk: Crash.
-/
import Derived.Test.YtneipacdpojjkaaRefC
import Derived.Deep.DrawnRows
namespace Go.Proofs.Ytneipacdpojjkaa
open Go.RowKit Go.Proofs WageMem WageDisk

theorem over_step {l xs : List UInt8} {o j : Nat} {y : UInt8} (h : o + xs.length ≤ l.length) (hy : xs[j]? = some y) : (over l o (xs.take j)).set (o + j) y = over l o (xs.take (j + 1)) := by
  have hj := (List.getElem?_eq_some_iff.1 hy).1
  have l1 : (xs.take j).length = j := by rw [List.length_take]; omega
  have l2 : (xs.take (j + 1)).length = j + 1 := by rw [List.length_take]; omega
  have e1 := over_length (l := l) (xs := xs.take j) (off := o) (by omega)
  apply List.ext_getElem?
  intro k
  rw [List.getElem?_set, e1]
  by_cases h1 : o + j = k
  · subst h1
    rw [if_pos rfl, if_pos (by omega), over_in (by omega) (by omega) (by omega), List.getElem?_take, if_pos (by omega), Nat.add_sub_cancel_left, hy]
  · rw [if_neg h1]
    by_cases h2 : o ≤ k ∧ k < o + j
    · rw [over_in (by omega) (by omega) (by omega), over_in (by omega) (by omega) (by omega), List.getElem?_take, List.getElem?_take, if_pos (by omega), if_pos (by omega)]
    · rw [over_out (by omega) (by omega), over_out (by omega) (by omega)]

/-- A store into a row that the call owns. -/
theorem own_store {w : World} {base : Nat} {e : TypeId} {g n c j : Nat} {xs : List Value} {u : Value} (h : w.ownsRow base e 1 (.slice (some ⟨g, 0, none⟩) n c) n xs) (hj : j < n) :
    (w.setCell ⟨g, j, none⟩ u).ownsRow base e 1 (.slice (some ⟨g, 0, none⟩) n c) n (xs.set j u) := by
  obtain ⟨hl, h2⟩ := h
  refine ⟨by rw [List.length_set, hl], .inr ?_⟩
  rcases h2 with ⟨hv, hn⟩ | ⟨g', cap, cur, hv, hb, hg, hnc, hcm, hcs, ht⟩
  · exfalso; omega
  · injection hv with e1 e2 e3
    injection e1 with e1
    injection e1 with e1
    subst e1 e3
    refine ⟨g, c, cur.setIfInBounds j u, rfl, hb, heap_set hg _ _, hnc, hcm, by rw [Array.size_setIfInBounds, hcs], ?_⟩
    rw [Array.toList_setIfInBounds, ← ht, List.take_set]
theorem own_cell {w : World} {base : Nat} {e : TypeId} {g n c j : Nat} {xs : List Value} (h : w.ownsRow base e 1 (.slice (some ⟨g, 0, none⟩) n c) n xs) {u : Value} (hu : xs[j]? = some u) : w.cell? ⟨g, j, none⟩ = some u ∧ w.frozen? ⟨g, j, none⟩ = false := by
  obtain ⟨hl, h2⟩ := h
  rcases h2 with ⟨hv, hn⟩ | ⟨g', cap, cur, hv, hb, hg, hnc, hcm, hcs, ht⟩
  · cases hv
  · injection hv with e1 e2 e3
    injection e1 with e1
    injection e1 with e1
    subst e1
    refine ⟨?_, blk_frozen hg j⟩
    rw [blk_cell hg, ← Array.getElem?_toList]
    rw [← ht, List.getElem?_take] at hu
    split at hu
    · exact hu
    · cases hu
theorem own_at {w : World} {base : Nat} {e : TypeId} {A : Option Addr} {n c : Nat} {xs : List Value} (h : w.ownsRow base e 1 (.slice A n c) n xs) (hn : 0 < n) : ∃ g, A = some ⟨g, 0, none⟩ ∧ base ≤ g := by
  rcases h.2 with ⟨_, h0⟩ | ⟨g', cap, cur, hv, hb, _⟩
  · omega
  · injection hv with e1
    exact ⟨g', e1, hb⟩
theorem kept_rest {kept : List Int} {k : Nat} (h : kept.length ≤ k) (pe : List Wr) (st : List UInt8) : applyTo (keptC kept) st 0 pe = applyTo (keptC kept) st 0 (pe.take k) := by
  by_cases hk : pe.length ≤ k
  · rw [List.take_of_length_le hk]
  · conv => lhs; rw [← List.take_append_drop k pe]
    rw [applyTo_append]
    have : ∀ st : List UInt8, applyTo (keptC kept) st (0 + (pe.take k).length) (pe.drop k) = applyTo (fun _ _ => 0) st (0 + (pe.take k).length) (pe.drop k) := fun st => applyTo_congr _ _ _ fun j x _ => by
      unfold keptC
      rw [List.getElem?_eq_none_iff.2 (by rw [List.length_take]; omega)]
    rw [this, applyTo_none]

set_option maxRecDepth 100000 in
set_option maxHeartbeats 8000000 in
theorem rcrash_ok (A : Option Addr) (n c : Nat) (A' : Option Addr) (n' c' : Nat) (d : Ds) (Ak : Option Addr) (nk ck : Nat) (kept : List Int) (w : World) (h : Disk w (.agg #[.slice A n c, .slice A' n' c']) d) (hK : Ints w Ak nk ck kept) (hv : validB d = true) :
    Calls Try.prog 29 #[.agg #[.slice A n c, .slice A' n' c'], .slice Ak nk ck] w (RetDisk ⟨applyTo (keptC kept) d.st 0 d.pe, []⟩ w) := by
  have hn' := h.parts.2.1
  have hn := h.parts.1.1
  have hsz := valid_size hv
  have s1 : n ≤ 65536 := by omega
  have s2 : n' ≤ 64 := by omega
  have hlk : ∀ k, (applyTo (keptC kept) d.st 0 (d.pe.take k)).length = n := fun k => by
    rw [applyTo_length (keptC_le kept) n _ _ _ hn (fun x hx => by
      obtain ⟨j, hj⟩ := List.mem_iff_getElem?.1 (List.mem_of_mem_take hx)
      have := valid_in hv hj; rw [hn] at this; exact this)]
  have HLK := Lib.hid hlk
  have HN := Lib.hid hn
  have HN' := Lib.hid hn'
  have HV := Lib.hid hv
  have HH := Lib.hid h
  have HK := Lib.hid hK
  have HKL := Lib.hid hK.1
  have hkm : nk ≤ maxLen := Nat.le_trans hK.2.1 hK.2.2.1
  unfold maxLen at hkm
  clear hv h hK hn hn' hsz hlk
  go_enter Try.func29, Try.ntmps29
  go_wp2_with fail
  refine (rvalid_any _ d _ (HH.out.grew (((Grew.refl w).alloc _).alloc _))).mono ?_
  rw [HV.out]
  rintro e w1 ⟨rfl, g1⟩
  have hr : w1.heap[w.heap.size + 1]? = some (.cells #[.slice none 0 0, .slice none 0 0] 25 (0, 0)) := g1.block (blk_new2 _ _ _ _)
  have hd : w1.heap[w.heap.size]? = some (.cells #[.slice A n c, .slice A' n' c'] 25 (0, 0)) := g1.block (blk_new1 _ _ _ _)
  have d0 : w1.cell? ⟨w.heap.size, 0, none⟩ = some (.slice A n c) := blk_cell hd 0
  have d1 : w1.cell? ⟨w.heap.size, 1, none⟩ = some (.slice A' n' c') := blk_cell hd 1
  have gg : Grew w w1 := (((Grew.refl w).alloc _).alloc _).trans g1
  have HR := Lib.hid hr
  have D0 := Lib.hid d0
  have D1 := Lib.hid d1
  have nz : w.heap.size + 1 < w1.heap.size := World.block_lt_of_cell? _ _ (blk_cell hr 0)
  clear hd g1 hr
  go_wp2_with fail
  refine (copy_any A n c d.st _ (HH.out.grew gg).parts.1 s1).mono ?_
  rintro e w2 ⟨As, cs, rfl, own2, g2⟩
  have d0' := g2.cell d0
  have d1' := g2.cell d1
  have hro : As = none ∨ ∃ g, As = some ⟨g, 0, none⟩ ∧ w1.heap.size ≤ g ∧ g < w2.heap.size := by
    rcases own2.2 with ⟨hv, _⟩ | ⟨g', cap, cur, hv, hb, hg, _⟩
    · injection hv with e1; exact .inl e1
    · injection hv with e1; exact .inr ⟨g', e1, hb, (Array.getElem?_eq_some_iff.1 hg).1⟩
  have HRO := Lib.hid hro
  clear d0 d1 hro
  go_wp2_with fail
  obtain ⟨w3, hw3⟩ : ∃ w3, w3 = w2.alloc (.cells #[.slice As n cs, .slice none 0 0] 25) := ⟨_, rfl⟩
  have g3 : Grew w1 w3 := by rw [hw3]; exact g2.alloc _
  have o0 : w3.heap[w2.heap.size]? = some (.cells #[.slice As n cs, .slice none 0 0] 25 (0, 0)) := by rw [hw3]; exact heap_alloc_new _ _
  have own3 : w3.ownsRow w1.heap.size 5 1 (.slice As n cs) n (d.st.map bv) := by rw [hw3]; exact own2.alloc _
  have d0 := ((Grew.refl w2).alloc (.cells #[.slice As n cs, .slice none 0 0] 25)).cell d0'
  have d1 := ((Grew.refl w2).alloc (.cells #[.slice As n cs, .slice none 0 0] 25)).cell d1'
  rw [← hw3] at d0 d1
  rw [← hw3]
  clear hw3 own2 d0' d1'
  go_loopw [6] (fun i wr => ∃ k : Nat, k ≤ n' ∧ i = .int .i64 k ∧ wr.ownsRow w1.heap.size 5 1 (.slice As n cs) n ((applyTo (keptC kept) d.st 0 (d.pe.take k)).map bv) ∧ Grew w1 wr ∧ wr.heap[w2.heap.size]? = some (.cells #[.slice As n cs, .slice none 0 0] 25 (0, 0))) (fun i _ => n' - (intOf i).toNat)
  case atStart => exact ⟨0, Nat.zero_le _, rfl, own3, g3, o0⟩
  case round =>
    obtain ⟨k, hk, rfl, hown, hg, hbx⟩ := hrel
    obtain ⟨wo, rfl⟩ : ∃ wo : World, wo = wr := ⟨_, rfl⟩
    have d0 := hg.cell D0.out
    have d1 := hg.cell D1.out
    have hg3 : w2.heap.size < wo.heap.size := World.block_lt_of_cell? _ _ (blk_cell hbx 0)
    by_cases hlt : k < n'
    · by_cases hkk : k < nk
      · obtain ⟨b, o, x, Ad, nd, cd, rfl, hx, c3', c4', hbz⟩ := (HH.out.grew gg).parts.2.at_ hlt
        have c3 := hg.cell c3'
        have c4 := hg.cell c4'
        obtain ⟨y, hy⟩ : ∃ y, kept[k]? = some y := ⟨_, List.getElem?_eq_getElem (by rw [HKL.out]; exact hkk)⟩
        obtain ⟨bk, ok, rfl, hck⟩ := (HK.out.grew gg).at_ (by omega)
        have c5' := hck _ _ hy
        have c5 := hg.cell c5'
        have C5 := Lib.hid c5'
        obtain ⟨v0, v1⟩ := valid_in HV.out hx
        rw [HN.out, hbz.1] at v1
        have t1 : decide (k < n') = true := decide_eq_true hlt
        have t2 : decide (k < nk) = true := decide_eq_true hkk
        obtain ⟨cnt, hcnt⟩ : ∃ cnt, cnt = keptC kept k nd := ⟨_, rfl⟩
        have hc' : (cnt : Int) = max (min y nd) 0 := by rw [hcnt]; unfold keptC; rw [hy]; simp only; omega
        have ht := applyTo_take (ch := keptC kept) hx d.st
        rw [hbz.1, ← hcnt] at ht
        have HTK := Lib.hid ht
        have hlc := HLK.out k
        generalize applyTo (keptC kept) d.st 0 (d.pe.take k) = cur at *
        generalize hxo : x.off = xo at *
        generalize hxd : x.data = xd at *
        have HLC := Lib.hid hlc
        have HBZ := Lib.hid hbz
        have k1 : (0 : Int) ≤ (k : Int) := by omega
        have k2 : (k : Int) < (nk : Int) := by omega
        have szd : w.heap.size < wo.heap.size := World.block_lt_of_cell? _ _ d0
        have szk : bk < wo.heap.size := World.block_lt_of_cell? _ _ c5
        clear ht hlc hbz hx hy hck hcnt hxo hxd c3' c4' c5'
        go_wp2_with fail
        go_loopw [8] (fun i wr => ∃ j : Nat, j ≤ cnt ∧ i = .int .i64 j ∧ wr.ownsRow w1.heap.size 5 1 (.slice As n cs) n ((over cur xo.toNat (xd.take j)).map bv) ∧ Grew w1 wr ∧ wr.heap[w2.heap.size]? = some (.cells #[.slice As n cs, .slice none 0 0] 25 (0, 0)) ∧ wr.cell? ⟨wo.heap.size, 0, none⟩ = some (.int .i64 xo) ∧ wr.cell? ⟨wo.heap.size, 1, none⟩ = some (.slice Ad nd cd)) (fun i _ => cnt - (intOf i).toNat)
        case atStart => exact ⟨0, Nat.zero_le _, rfl, by rw [List.take_zero, over_nil]; exact hown.alloc _, hg.alloc _, (Below.heap_alloc _ _ _ hg3).trans hbx, by simp, by simp⟩
        case round =>
          obtain ⟨j, hj, rfl, hown1, hg1, hbx1, e0, e1⟩ := hrel
          clear hown hbx c3 c4 d0 d1 c5
          have c5 := hg1.cell C5.out
          have ex : cnt ≤ j → j = cnt ∧ (decide (j < nd) = false ∨ decide ((j : Int) < y) = false) := fun hh => ⟨by omega, by
            by_cases q : j < nd
            · exact .inr (decide_eq_false (by omega))
            · exact .inl (decide_eq_false q)⟩
          by_cases hjc : j < cnt
          · have t3 : decide (j < nd) = true := decide_eq_true (by omega)
            have t4 : decide ((j : Int) < y) = true := decide_eq_true (by omega)
            obtain ⟨z, hz⟩ : ∃ z, xd[j]? = some z := ⟨_, List.getElem?_eq_getElem (by rw [HBZ.out.1]; omega)⟩
            obtain ⟨bd, od, rfl, hcd⟩ := HBZ.out.at_ (by omega)
            have c6' := hcd _ _ hz
            have c6 := hg1.cell c6'
            have szb : bd < w1.heap.size := World.block_lt_of_cell? _ _ c6'
            obtain ⟨g, rfl, hg0⟩ := own_at hown1 (by omega)
            have hgl : g < w2.heap.size := by
              rcases HRO.out with h0 | ⟨g', h0, _, h2⟩
              · cases h0
              · injection h0 with h0; injection h0 with h0; omega
            have hlo : (over cur xo.toNat (xd.take j)).length = n := by
              rw [over_length (by rw [List.length_take, HLC.out, HBZ.out.1]; omega), HLC.out]
            obtain ⟨u, hu⟩ : ∃ u, (over cur xo.toNat (xd.take j))[xo.toNat + j]? = some u := ⟨_, List.getElem?_eq_getElem (by rw [hlo]; omega)⟩
            obtain ⟨p1, p2⟩ := own_cell hown1 (j := xo.toNat + j) (u := bv u) (by rw [List.getElem?_map, hu]; rfl)
            have own5 := own_store (j := xo.toNat + j) (u := bv z) hown1 (by omega)
            rw [← List.map_set, over_step (by rw [HLC.out, HBZ.out.1]; omega) hz] at own5
            have OWN := Lib.hid own5
            have HBX := Lib.hid hbx1
            have b0 : wr.cell? ⟨w2.heap.size, 0, none⟩ = some (.slice (some ⟨g, 0, none⟩) n cs) := blk_cell hbx1 0
            have ng1 : g ≠ w2.heap.size := by omega
            have ng2 : g ≠ wo.heap.size := by omega
            have ng3 : g ≠ bd := by omega
            have f0 : 0 ≤ xo + (j : Int) := by omega
            have f1 : xo + (j : Int) < (n : Int) := by omega
            have f2 : (xo + (j : Int)).toNat = xo.toNat + j := by omega
            have f3 : (0 : Int) ≤ (j : Int) := by omega
            have f4 : (j : Int) < (nd : Int) := by omega
            have wr1 : IntKind.i64.wrap (xo + (j : Int)) = xo + (j : Int) := IntWalk.i64_in _ (by omega)
            clear hown1 own5 hbx1 hz hcd c6' hu hlo ex
            go_wp2_with fail
            go_region_held3 (fun w' => w'.cell? ⟨w2.heap.size, 0, none⟩ = some (.slice (some ⟨g, 0, none⟩) n cs) ∧ w'.cell? ⟨wo.heap.size, 0, none⟩ = some (.int .i64 xo) ∧ w'.cell? ⟨wo.heap.size, 1, none⟩ = some (.slice (some ⟨bd, od, none⟩) nd cd) ∧ w'.cell? ⟨bd, od + j, none⟩ = some (.int .u8 (z.toNat : Int)))
              (first | (with_reducible exact ⟨far0 b0, far0 e0, far0 e1, far0 c6⟩) | (with_reducible exact ⟨far1 b0 ng1, far1 e0 ng2, far1 e1 ng2, far1 c6 ng3⟩)) (fail)
            clear wr1
            go_wp2_with fail
            go_roundw
            case rel => exact ⟨j + 1, by omega, by go_num, OWN.out, (hg1.set hg0 _).drew, (Below.heap_setCell _ _ _ _ (Ne.symm ng1)).trans HBX.out, far1 e0 ng2, far1 e1 ng2⟩
            case measure => simp [intOf]; omega
          · obtain ⟨rfl, q⟩ := ex (by omega)
            have OWN := Lib.hid hown1
            have HBX := Lib.hid hbx1
            clear hown1 hbx1 ex
            by_cases q1 : j < nd
            · have t3 : decide (j < nd) = true := decide_eq_true q1
              have t4 : decide ((j : Int) < y) = false := by
                rcases q with q | q
                · rw [t3] at q; cases q
                · exact q
              clear q
              go_wp2_with fail
              go_roundw
              case rel => exact ⟨k + 1, by omega, by go_num, by rw [HTK.out]; exact OWN.out, hg1, HBX.out⟩
              case measure => simp [intOf]; omega
            · have t3 : decide (j < nd) = false := decide_eq_false q1
              clear q
              go_wp2_with fail
              go_roundw
              case rel => exact ⟨k + 1, by omega, by go_num, by rw [HTK.out]; exact OWN.out, hg1, HBX.out⟩
              case measure => simp [intOf]; omega
      · have t1 : decide (k < n') = true := decide_eq_true hlt
        have t2 : decide (k < nk) = false := decide_eq_false hkk
        have hfin : applyTo (keptC kept) d.st 0 d.pe = applyTo (keptC kept) d.st 0 (d.pe.take k) := by
          exact kept_rest (by rw [HKL.out]; omega) _ _
        have hB : Fresh w1.heap.size wo fun W => Bytes W As n cs (applyTo (keptC kept) d.st 0 d.pe) := by
          rw [hfin]; exact (own_fresh hown).imp fun W h => Bytes.own (HLK.out k) h
        have HB := Lib.hid hB
        have b0 : wo.cell? ⟨w2.heap.size, 0, none⟩ = some (.slice As n cs) := blk_cell hbx 0
        have b1 : wo.cell? ⟨w2.heap.size, 1, none⟩ = some (.slice none 0 0) := blk_cell hbx 1
        have hr2 := hg.block HR.out
        have r0 := blk_cell hr2 0
        have r1 := blk_cell hr2 1
        have z0 := blk_frozen hr2 0
        have z1 := blk_frozen hr2 1
        clear hfin hB hown hbx hr2 hg3
        go_wp2_with fail
        obtain ⟨q0, q1⟩ := two_set r0 r1 (.slice As n cs) (.slice none 0 0)
        refine bodyPost_ret (v := .agg #[.slice As n cs, .slice none 0 0]) (by simp [results, Try.results29, go_sem, q0, q1]) rfl ⟨_, _, _, _, _, _, rfl, ?_, ((gg.trans hg).set (by simp) _).set (by simp) _⟩
        exact (((HB.out.set nz _).set nz _).mono gg.le).imp fun W h => Disk.mk_ h Writes.none
    · have t1 : decide (k < n') = false := decide_eq_false hlt
      have hfin : applyTo (keptC kept) d.st 0 d.pe = applyTo (keptC kept) d.st 0 (d.pe.take k) := by
        rw [List.take_of_length_le (by rw [HN'.out]; omega)]
      have hB : Fresh w1.heap.size wo fun W => Bytes W As n cs (applyTo (keptC kept) d.st 0 d.pe) := by
        rw [hfin]; exact (own_fresh hown).imp fun W h => Bytes.own (HLK.out k) h
      have HB := Lib.hid hB
      have b0 : wo.cell? ⟨w2.heap.size, 0, none⟩ = some (.slice As n cs) := blk_cell hbx 0
      have b1 : wo.cell? ⟨w2.heap.size, 1, none⟩ = some (.slice none 0 0) := blk_cell hbx 1
      have hr2 := hg.block HR.out
      have r0 := blk_cell hr2 0
      have r1 := blk_cell hr2 1
      have z0 := blk_frozen hr2 0
      have z1 := blk_frozen hr2 1
      clear hfin hB hown hbx hr2 hg3
      go_wp2_with fail
      obtain ⟨q0, q1⟩ := two_set r0 r1 (.slice As n cs) (.slice none 0 0)
      refine bodyPost_ret (v := .agg #[.slice As n cs, .slice none 0 0]) (by simp [results, Try.results29, go_sem, q0, q1]) rfl ⟨_, _, _, _, _, _, rfl, ?_, ((gg.trans hg).set (by simp) _).set (by simp) _⟩
      exact (((HB.out.set nz _).set nz _).mono gg.le).imp fun W h => Disk.mk_ h Writes.none
end Go.Proofs.Ytneipacdpojjkaa
