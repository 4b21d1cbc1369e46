/-
  The law DiskPrefixes, walked.
-/
import Derived.Test.YtneipacdpojjkaaExtremes
namespace Go.Proofs.Ytneipacdpojjkaa
open Go.RowKit Go.Proofs WageMem WageDisk

/-- The lengths of the first k writes. -/
def lens (d : Ds) (k : Nat) : List Int := (d.pe.take k).map fun x => (x.data.length : Int)
theorem lens_succ {d : Ds} {k : Nat} {x : Wr} (hx : d.pe[k]? = some x) : lens d (k + 1) = lens d k ++ [(x.data.length : Int)] := by
  unfold lens
  rw [List.take_add_one, hx]; simp
theorem lens_len {d : Ds} {k : Nat} (h : k ≤ d.pe.length) : (lens d k).length = k := by unfold lens; simp; omega
theorem applyTo_append (ch : Nat → Nat → Nat) : ∀ (l r : List Wr) (st : List UInt8) (i : Nat), applyTo ch st i (l ++ r) = applyTo ch (applyTo ch st i l) (i + l.length) r
  | [], _, _, _ => rfl
  | x :: l, r, st, i => by
    simp only [List.cons_append, applyTo, List.length_cons]
    rw [applyTo_append ch l r, Nat.add_right_comm]; rfl
theorem valid_take {d : Ds} (hv : validB d = true) (k : Nat) : validB ⟨d.st, d.pe.take k⟩ = true := by
  have h2 := valid_size hv
  unfold validB at *
  rw [Bool.and_eq_true] at *
  refine ⟨decide_eq_true ⟨h2.1, ?_⟩, ?_⟩
  · show (d.pe.take k).length ≤ 64
    rw [List.length_take]; omega
  · rw [List.all_eq_true] at *
    exact fun x hx => hv.2 x (List.mem_of_mem_take hx)
theorem crash_lens {d : Ds} (hv : validB d = true) {k : Nat} (hk : k ≤ d.pe.length) : crashD d (lens d k) = ⟨applyTo wholeC d.st 0 (d.pe.take k), []⟩ := by
  unfold crashD
  rw [hv, if_pos rfl]
  congr 1
  conv => lhs; rw [← List.take_append_drop k d.pe]
  rw [applyTo_append]
  have h1 : applyTo (keptC (lens d k)) d.st 0 (d.pe.take k) = applyTo wholeC d.st 0 (d.pe.take k) := by
    refine applyTo_congr _ _ _ fun j x hx => ?_
    have hl : (lens d k)[j]? = some (x.data.length : Int) := by unfold lens; rw [List.getElem?_map, hx]; rfl
    rw [Nat.zero_add]
    unfold keptC wholeC
    rw [hl]
    simp only
    omega
  rw [h1]
  have h2 : ∀ st : List UInt8, applyTo (keptC (lens d k)) st (0 + (d.pe.take k).length) (d.pe.drop k) = applyTo (fun _ _ => 0) st (0 + (d.pe.take k).length) (d.pe.drop k) := fun st => by
    refine applyTo_congr _ _ _ fun j x _ => ?_
    have hl : (lens d k)[0 + (d.pe.take k).length + j]? = none := by
      rw [List.getElem?_eq_none_iff, lens_len hk, List.length_take]; omega
    unfold keptC
    rw [hl]
  rw [h2, applyTo_none]
theorem sync_take {d : Ds} (hv : validB d = true) (k : Nat) : syncD ⟨d.st, d.pe.take k⟩ = ⟨applyTo wholeC d.st 0 (d.pe.take k), []⟩ := sync_valid (valid_take hv k)

set_option maxRecDepth 100000 in
set_option maxHeartbeats 16000000 in
theorem prefixes_skip (A : Option Addr) (n c : Nat) (A' : Option Addr) (n' c' : Nat) (d : Ds) (m : Int) (w : World) (h : Disk w (.agg #[.slice A n c, .slice A' n' c']) d)
    (hs : smallB d 600 = false ∨ validB d = false) :
    Calls Try.prog 7 #[.agg #[.slice A n c, .slice A' n' c'], .int .u8 m] w fun e w' => e = .returned (.bool true) ∧ Grew w w' := by
  have g0 : Grew w (w.alloc (.cells #[.slice A n c, .slice A' n' c'] 25)) := (Grew.refl w).alloc _
  have HH := Lib.hid h
  clear h
  cases hsm : smallB d 600 with
  | false =>
    have HS := Lib.hid hsm
    clear hsm hs
    go_enter Try.func7, Try.ntmps7
    go_wp2_with fail
    refine (head_true _).mono ?_
    rintro e w1 ⟨rfl, g1⟩
    have d0 : w1.cell? ⟨w.heap.size, 0, none⟩ = some (.slice A n c) := g1.cell (by simp)
    have d1 : w1.cell? ⟨w.heap.size, 1, none⟩ = some (.slice A' n' c') := g1.cell (by simp)
    have gg := g0.trans g1
    clear g0 g1
    go_wp2_with fail
    refine (small_any _ d 600 _ (HH.out.grew gg)).mono ?_
    rw [HS.out]
    rintro e w2 ⟨rfl, g2⟩
    clear d0 d1
    go_wp2_with fail
    go_ret
    exact ⟨rfl, gg.trans g2⟩
  | true =>
    cases hv : validB d with
    | false =>
      have HS := Lib.hid hsm
      have HV := Lib.hid hv
      clear hsm hs hv
      go_enter Try.func7, Try.ntmps7
      go_wp2_with fail
      refine (head_true _).mono ?_
      rintro e w1 ⟨rfl, g1⟩
      have d0 : w1.cell? ⟨w.heap.size, 0, none⟩ = some (.slice A n c) := g1.cell (by simp)
      have d1 : w1.cell? ⟨w.heap.size, 1, none⟩ = some (.slice A' n' c') := g1.cell (by simp)
      have gg := g0.trans g1
      clear g0 g1
      go_wp2_with fail
      refine (small_any _ d 600 _ (HH.out.grew gg)).mono ?_
      rw [HS.out]
      rintro e w2 ⟨rfl, g2⟩
      have d0' := g2.cell d0
      have d1' := g2.cell d1
      have gg2 := gg.trans g2
      clear d0 d1 gg g2
      go_wp2_with fail
      refine (rvalid_any _ d _ (HH.out.grew gg2)).mono ?_
      rw [HV.out]
      rintro e w3 ⟨rfl, g3⟩
      clear d0' d1'
      go_wp2_with fail
      go_ret
      exact ⟨rfl, gg2.trans g3⟩
    | true =>
      rcases hs with hs | hs
      · rw [hsm] at hs; cases hs
      · rw [hv] at hs; cases hs

end Go.Proofs.Ytneipacdpojjkaa
