/-
  The law DiskExtremes, walked.
-/
import Derived.Test.YtneipacdpojjkaaSync
namespace Go.Proofs.Ytneipacdpojjkaa
open Go.RowKit Go.Proofs WageMem WageDisk

theorem info3 : (Try.prog.info? 3).map (fun i => (i.zero, i.size, i.bytes)) = some (some (.int .i64 0), 1, 8) := by kernel_rfl

theorem applyTo_congr {ch ch' : Nat → Nat → Nat} : ∀ (pe : List Wr) (st : List UInt8) (i : Nat), (∀ j x, pe[j]? = some x → ch (i + j) x.data.length = ch' (i + j) x.data.length) → applyTo ch st i pe = applyTo ch' st i pe
  | [], _, _, _ => rfl
  | x :: pe, st, i, h => by
    have h0 := h 0 x rfl
    rw [Nat.add_zero] at h0
    simp only [applyTo]
    rw [h0]
    exact applyTo_congr pe _ _ fun j y hy => by
      have := h (j + 1) y (by simpa using hy)
      rw [show i + 1 + j = i + (j + 1) by omega]; exact this
theorem over_nil (l : List UInt8) (o : Nat) : over l o [] = l := by unfold over; simp
theorem applyTo_none : ∀ (pe : List Wr) (st : List UInt8) (i : Nat), applyTo (fun _ _ => 0) st i pe = st
  | [], _, _ => rfl
  | x :: pe, st, i => by
    simp only [applyTo, List.take_zero, over_nil]
    exact applyTo_none pe st (i + 1)
theorem crash_full {d : Ds} (hv : validB d = true) (hs : smallB d 600 = true) : crashD d (List.replicate d.pe.length 601) = ⟨applyTo wholeC d.st 0 d.pe, []⟩ := by
  unfold crashD
  rw [hv, if_pos rfl]
  congr 1
  refine applyTo_congr _ _ _ fun j x hx => ?_
  have hj : j < d.pe.length := (List.getElem?_eq_some_iff.1 hx).1
  unfold smallB at hs
  rw [Bool.and_eq_true] at hs
  have h2 := hs.2
  unfold smallTo at h2
  rw [List.take_length, List.all_eq_true] at h2
  have h3 := of_decide_eq_true (h2 x (List.mem_of_getElem? hx))
  rw [Nat.zero_add]
  unfold keptC wholeC
  rw [List.getElem?_replicate, if_pos hj]
  simp only
  omega
theorem crash_none {d : Ds} (hv : validB d = true) : crashD d [] = ⟨d.st, []⟩ := by
  unfold crashD
  rw [hv, if_pos rfl]
  congr 1
  exact applyTo_none d.pe d.st 0

set_option maxRecDepth 100000 in
set_option maxHeartbeats 16000000 in
theorem extremes_skip (A : Option Addr) (n c : Nat) (A' : Option Addr) (n' c' : Nat) (d : Ds) (w : World) (h : Disk w (.agg #[.slice A n c, .slice A' n' c']) d)
    (hs : smallB d 600 = false ∨ validB d = false) :
    Calls Try.prog 6 #[.agg #[.slice A n c, .slice A' n' c']] w fun e w' => e = .returned (.bool true) ∧ Grew w w' := by
  have g0 : Grew w (w.alloc (.cells #[.slice A n c, .slice A' n' c'] 25)) := (Grew.refl w).alloc _
  have HH := Lib.hid h
  clear h
  cases hsm : smallB d 600 with
  | false =>
    have HS := Lib.hid hsm
    clear hsm hs
    go_enter Try.func6, Try.ntmps6
    go_wp2_with fail
    refine (head_true _).mono ?_
    rintro e w1 ⟨rfl, g1⟩
    have d0 : w1.cell? ⟨w.heap.size, 0, none⟩ = some (.slice A n c) := g1.cell (by simp)
    have d1 : w1.cell? ⟨w.heap.size, 1, none⟩ = some (.slice A' n' c') := g1.cell (by simp)
    have gg := g0.trans g1
    clear g0 g1
    go_wp2_with fail
    refine (small_any _ d 600 _ (HH.out.grew gg)).mono ?_
    rw [HS.out]
    rintro e w2 ⟨rfl, g2⟩
    clear d0 d1
    go_wp2_with fail
    go_ret
    exact ⟨rfl, gg.trans g2⟩
  | true =>
    cases hv : validB d with
    | false =>
      have HS := Lib.hid hsm
      have HV := Lib.hid hv
      clear hsm hs hv
      go_enter Try.func6, Try.ntmps6
      go_wp2_with fail
      refine (head_true _).mono ?_
      rintro e w1 ⟨rfl, g1⟩
      have d0 : w1.cell? ⟨w.heap.size, 0, none⟩ = some (.slice A n c) := g1.cell (by simp)
      have d1 : w1.cell? ⟨w.heap.size, 1, none⟩ = some (.slice A' n' c') := g1.cell (by simp)
      have gg := g0.trans g1
      clear g0 g1
      go_wp2_with fail
      refine (small_any _ d 600 _ (HH.out.grew gg)).mono ?_
      rw [HS.out]
      rintro e w2 ⟨rfl, g2⟩
      have d0' := g2.cell d0
      have d1' := g2.cell d1
      have gg2 := gg.trans g2
      clear d0 d1 gg g2
      go_wp2_with fail
      refine (rvalid_any _ d _ (HH.out.grew gg2)).mono ?_
      rw [HV.out]
      rintro e w3 ⟨rfl, g3⟩
      clear d0' d1'
      go_wp2_with fail
      go_ret
      exact ⟨rfl, gg2.trans g3⟩
    | true =>
      rcases hs with hs | hs
      · rw [hsm] at hs; cases hs
      · rw [hv] at hs; cases hs

set_option maxRecDepth 100000 in
set_option maxHeartbeats 16000000 in
theorem extremes_main (A : Option Addr) (n c : Nat) (A' : Option Addr) (n' c' : Nat) (d : Ds) (w : World) (h : Disk w (.agg #[.slice A n c, .slice A' n' c']) d)
    (hsm : smallB d 600 = true) (hv : validB d = true) :
    Calls Try.prog 6 #[.agg #[.slice A n c, .slice A' n' c']] w fun e w' => e = .returned (.bool true) ∧ Grew w w' := by
  have g0 : Grew w (w.alloc (.cells #[.slice A n c, .slice A' n' c'] 25)) := (Grew.refl w).alloc _
  obtain ⟨i0, hi, hz0, hz1, hz2⟩ := info_parts info3
  have E1 := Lib.hid (sync_valid hv)
  have hcf := crash_full hv hsm
  have hn' := h.parts.2.1
  have hsz := (valid_size hv).2
  have s2 : n' ≤ 64 := by omega
  rw [hn'] at hcf
  have E2 := Lib.hid hcf
  have E3 := Lib.hid (crash_none hv)
  have HS := Lib.hid hsm
  have HV := Lib.hid hv
  have HH := Lib.hid h
  clear hsm hv h hcf hn' hsz
  go_enter Try.func6, Try.ntmps6
  go_wp2_with fail
  refine (head_true _).mono ?_
  rintro e w1 ⟨rfl, g1⟩
  have d0 : w1.cell? ⟨w.heap.size, 0, none⟩ = some (.slice A n c) := g1.cell (by simp)
  have d1 : w1.cell? ⟨w.heap.size, 1, none⟩ = some (.slice A' n' c') := g1.cell (by simp)
  have gg := g0.trans g1
  clear g0 g1
  go_wp2_with fail
  refine (small_any _ d 600 _ (HH.out.grew gg)).mono ?_
  rw [HS.out]
  rintro e w2 ⟨rfl, g2⟩
  have d0' := g2.cell d0
  have d1' := g2.cell d1
  have gg2 := gg.trans g2
  clear d0 d1 gg g2
  go_wp2_with fail
  refine (rvalid_any _ d _ (HH.out.grew gg2)).mono ?_
  rw [HV.out]
  rintro e w3 ⟨rfl, g3⟩
  have d0 := g3.cell d0'
  have d1 := g3.cell d1'
  have gg3 := gg2.trans g3
  clear d0' d1' gg2 g3
  go_wp2_with fail
  go_loopw [4, 5] (fun v i wr => ∃ (k : Nat) (Af : Option Addr) (cf : Nat), k ≤ n' ∧ v = .slice Af k cf ∧ i = .int .i64 k ∧ wr.ownsRow w3.heap.size 3 1 (.slice Af k cf) k ((List.replicate k 601).map iv) ∧ Grew w3 wr) (fun _ i _ => n' - (intOf i).toNat)
  case atStart => exact ⟨0, none, 0, Nat.zero_le _, rfl, rfl, World.ownsRow_nil _ _ _ _, Grew.refl _⟩
  case round =>
    obtain ⟨k, Af, cf, hk, rfl, rfl, hown, hg⟩ := hrel
    have d0' := hg.cell d0
    have d1' := hg.cell d1
    by_cases hlt : k < n'
    · have HO := Lib.hid hown
      have bi := builtI (w := wr) (t := 3) [601] #[.int .i64 601] rfl 1 rfl (by decide)
      have BI := Lib.hid bi
      clear hown bi d0 d1
      go_wp2_with (at_builtin; refine wpList_append_sl _ rfl (.tmp 24) (.tmp 25) 26 rfl w3.heap.size 3 i0 (.int .i64 0) 1 8 Try.underlying26 hi hz0 hz1 hz2 rfl (by decide) (.slice Af k cf) k ((List.replicate k 601).map iv) rfl (HO.out.alloc _) (some ⟨wr.heap.size, 0, none⟩) 1 1 [.int .i64 601] rfl BI.out.2 (by simp [Value.oneCell']) (by unfold maxLen; omega) (by omega) (by have := hg.le; simp; omega) ?_; intro v1 x1 own1 hg1 hat1; obtain ⟨Ag, cg, rfl⟩ := own_form own1)
      have hgx : Grew w3 x1 := (hg.alloc _).grown hg1 (fun j hj => (HO.out.lt j hj).1)
      have own2 : x1.ownsRow w3.heap.size 3 1 (.slice Ag (k + 1) cg) (k + 1) ((List.replicate (k + 1) 601).map iv) := by
        rw [List.replicate_succ', List.map_append]; exact own1
      clear own1 hg1 hat1 HO BI
      go_roundw
      case rel => exact ⟨k + 1, Ag, cg, by omega, rfl, by go_num, own2, hgx⟩
      case measure => simp [intOf]; omega
    · obtain rfl : k = n' := by omega
      have HF := Lib.hid (Ints.own (by simp) hown)
      have ggr := gg3.trans hg
      clear hown d0 d1
      go_wp2_with fail
      refine (crash_val (HH.out.grew ggr) (kept := []) ⟨rfl, Nat.le_refl _, Nat.zero_le _, rfl, Cells.nil, fun _ => ⟨rfl, rfl⟩⟩ E3.out).mono ?_
      rintro e w4 ⟨As, ns, cs, As', ns', cs', rfl, f4, g4⟩
      obtain rfl : ns' = 0 := f4.now.parts.2.1.symm
      have d0 := g4.cell d0'
      have d1 := g4.cell d1'
      have gg4 := ggr.trans g4
      have HF4 := Lib.hid (HF.out.grew g4)
      clear d0' d1' ggr g4 HF
      have sz4 : w.heap.size < w4.heap.size := World.block_lt_of_cell? _ _ d0
      go_wp2_with fail
      obtain ⟨w5, hw5⟩ : ∃ w5, w5 = w4.alloc (.cells #[.slice As ns cs, .slice As' 0 cs'] 25) := ⟨_, rfl⟩
      have g5 : Grew w4 w5 := by rw [hw5]; exact (Grew.refl _).alloc _
      have e0 : w5.cell? ⟨w4.heap.size, 0, none⟩ = some (.slice As ns cs) := by rw [hw5]; simp
      have e1 : w5.cell? ⟨w4.heap.size, 1, none⟩ = some (.slice As' 0 cs') := by rw [hw5]; simp
      have d0' := g5.cell d0
      have d1' := g5.cell d1
      rw [← hw5]
      have gg5 := gg4.trans g5
      have bnd : Bnd w.heap.size w4.heap.size (.slice A n c) (.slice A' k c') (.slice As ns cs) (.slice As' 0 cs') d ⟨d.st, []⟩ Af k cf (List.replicate k 601) w w5.drew :=
        ⟨d0', d1', e0, e1, HH.out.grew gg5.drew, (f4.now.grew g5).grew (Grew.refl w5).drew, (HF4.out.grew g5).grew (Grew.refl w5).drew, gg5.drew⟩
      clear hw5 d0 d1 gg4 g5 f4 gg5 HF4
      go_region_held3 (fun w' => w'.cell? ⟨w.heap.size, 0, none⟩ = some (.slice A n c) ∧ w'.cell? ⟨w.heap.size, 1, none⟩ = some (.slice A' k c') ∧ w'.cell? ⟨w4.heap.size, 0, none⟩ = some (.slice As ns cs) ∧ w'.cell? ⟨w4.heap.size, 1, none⟩ = some (.slice As' 0 cs'))
        (first | (refine ⟨?_, ?_, ?_, ?_⟩ <;> assumption) | go_keep)
        (first
          | (go_at_call 28; ((with_reducible refine (crash_d bnd E2.out).mono ?_); rintro e w6 ⟨Ay, ny, cy, Az, nz, cz, rfl, hDx, k0, k1, k2, k3, kb, kg⟩))
          | (go_at_call 26; ((with_reducible refine (sync_d kb E1.out).mono ?_); rintro e w6 ⟨Ay, ny, cy, Az, nz, cz, rfl, hDy, k0, k1, k2, k3, kb, kg⟩))
          | (go_at_call 19; ((with_reducible refine (same_b kb (hDx.grew kg) hDy).mono ?_); rintro e w6 ⟨rfl, k0, k1, k2, k3, kb, kg⟩))
          | (go_at_call 25; ((with_reducible refine (bytes_b kb kb.s.parts.1 kb.d.parts.1).mono ?_); rintro e w6 ⟨rfl, k0, k1, k2, k3, kb, kg⟩)))
      have gfin := kb.g
      go_wp2_with fail
      go_ret
      exact ⟨rfl, gfin⟩

theorem extremes_true (v : Value) (d : Ds) (w : World) (h : Disk w v d) :
    Calls Try.prog 6 #[v] w fun e w' => e = .returned (.bool true) ∧ Grew w w' := by
  obtain ⟨A, n, c, A', n', c', rfl, _, _⟩ := h.form
  cases hs : smallB d 600 with
  | false => exact extremes_skip A n c A' n' c' d w h (.inl hs)
  | true =>
    cases hv : validB d with
    | false => exact extremes_skip A n c A' n' c' d w h (.inr hv)
    | true => exact extremes_main A n c A' n' c' d w h hs hv
end Go.Proofs.Ytneipacdpojjkaa
