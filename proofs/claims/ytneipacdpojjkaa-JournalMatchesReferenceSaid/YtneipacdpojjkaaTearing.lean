/-
  The law DiskTearing, walked.
-/
import Derived.Test.YtneipacdpojjkaaPrefixesB
import Derived.Deep.QuietTactic
import Derived.BigQuiet
import Derived.IntWalk
namespace Go.Proofs.Ytneipacdpojjkaa
open Go.RowKit Go.Proofs WageMem WageDisk

/-- A write covers the offset i and has the byte b there. -/
def hasAt (i : Nat) (b : UInt8) (x : Wr) : Bool := decide (x.off ≤ i) && (decide ((i : Int) < x.off + x.data.length) && decide (x.data[((i : Int) - x.off).toNat]? = some b))
def okTo (st : List UInt8) (pe : List Wr) (i : Nat) (b : UInt8) (k : Nat) : Bool := decide (st[i]? = some b) || (pe.take k).any (hasAt i b)
theorem okTo_succ {st : List UInt8} {pe : List Wr} {i : Nat} {b : UInt8} {k : Nat} {x : Wr} (hx : pe[k]? = some x) : okTo st pe i b (k + 1) = (okTo st pe i b k || hasAt i b x) := by
  unfold okTo
  rw [List.take_add_one, hx, List.any_append, Bool.or_assoc]
  simp
theorem over_get {l : List UInt8} {o : Nat} {xs : List UInt8} {i : Nat} {b : UInt8} (h : (over l o xs)[i]? = some b) (ho : o ≤ l.length) : l[i]? = some b ∨ (o ≤ i ∧ i < o + xs.length ∧ xs[i - o]? = some b) := by
  unfold over at h
  have hl : (l.take o).length = o := by rw [List.length_take]; omega
  by_cases h1 : i < o
  · rw [List.getElem?_append_left (by omega), List.getElem?_take, if_pos h1] at h
    exact .inl h
  · rw [List.getElem?_append_right (by omega), hl] at h
    by_cases h2 : i - o < xs.length
    · rw [List.getElem?_append_left h2] at h
      exact .inr ⟨by omega, by omega, h⟩
    · rw [List.getElem?_append_right (by omega), List.getElem?_drop] at h
      rw [show o + xs.length + (i - o - xs.length) = i by omega] at h
      exact .inl h
theorem tear {ch : Nat → Nat → Nat} (hch : ∀ i n, ch i n ≤ n) (m i : Nat) (b : UInt8) : ∀ (pe : List Wr) (st : List UInt8) (j : Nat), st.length = m → (∀ x ∈ pe, 0 ≤ x.off ∧ x.off + x.data.length ≤ m) →
    (applyTo ch st j pe)[i]? = some b → st[i]? = some b ∨ pe.any (hasAt i b) = true
  | [], _, _, _, _, h => .inl h
  | x :: pe, st, j, hm, hin, h => by
    have hx := hin x (by simp)
    have hc := hch j x.data.length
    have hl : (x.data.take (ch j x.data.length)).length = ch j x.data.length := by rw [List.length_take]; omega
    rcases tear hch m i b pe _ (j + 1) (by rw [over_length (by rw [hl]; omega)]; exact hm) (fun y hy => hin y (by simp [hy])) h with h1 | h1
    · rcases over_get h1 (by omega) with h2 | ⟨h2, h3, h4⟩
      · exact .inl h2
      · refine .inr ?_
        rw [hl] at h3
        rw [List.getElem?_take, if_pos (by omega)] at h4
        rw [List.any_cons, Bool.or_eq_true]
        refine .inl ?_
        unfold hasAt
        rw [decide_eq_true (by omega), decide_eq_true (by omega), Bool.true_and, Bool.true_and, show ((i : Int) - x.off).toNat = i - x.off.toNat by omega]
        exact decide_eq_true h4
    · exact .inr (by rw [List.any_cons, h1, Bool.or_true])
theorem tear_ok {d : Ds} (hv : validB d = true) (kept : List Int) {i : Nat} {b : UInt8} (h : (applyTo (keptC kept) d.st 0 d.pe)[i]? = some b) : okTo d.st d.pe i b d.pe.length = true := by
  unfold okTo
  rw [List.take_length, Bool.or_eq_true]
  rcases tear (keptC_le kept) d.st.length i b d.pe d.st 0 rfl (fun x hx => by obtain ⟨k, hk⟩ := List.mem_iff_getElem?.1 hx; exact valid_in hv hk) h with h | h
  · exact .inl (decide_eq_true h)
  · exact .inr h
theorem okTo_zero (st : List UInt8) (pe : List Wr) (i : Nat) (b : UInt8) : okTo st pe i b 0 = decide (st[i]? = some b) := by unfold okTo; simp
theorem crash_len {d : Ds} (hv : validB d = true) (kept : List Int) : (applyTo (keptC kept) d.st 0 d.pe).length = d.st.length := apply_len hv (keptC_le kept)
theorem crash_valid {d : Ds} (hv : validB d = true) (kept : List Int) : crashD d kept = ⟨applyTo (keptC kept) d.st 0 d.pe, []⟩ := by unfold crashD; rw [hv]; rfl

set_option maxRecDepth 100000 in
set_option maxHeartbeats 16000000 in
theorem tearing_main (A : Option Addr) (n c : Nat) (A' : Option Addr) (n' c' : Nat) (d : Ds) (Ak : Option Addr) (nk ck : Nat) (kept : List Int) (w : World) (h : Disk w (.agg #[.slice A n c, .slice A' n' c']) d) (hK : Ints w Ak nk ck kept)
    (hsm : smallB d 600 = true) (hv : validB d = true) (hk : nk ≤ 80) :
    Calls Try.prog 8 #[.agg #[.slice A n c, .slice A' n' c'], .slice Ak nk ck] w fun e w' => e = .returned (.bool true) ∧ Grew w w' := by
  have g0 : Grew w (w.alloc (.cells #[.slice A n c, .slice A' n' c'] 25)) := (Grew.refl w).alloc _
  have dd : decide (80 < (nk : Int)) = false := decide_eq_false (by omega)
  have E1 := Lib.hid (crash_valid hv kept)
  have HL := Lib.hid (crash_len hv kept)
  have HT := Lib.hid (fun i b => tear_ok (i := i) (b := b) hv kept)
  have hn' := h.parts.2.1
  have hsz := (valid_size hv).2
  have hsz1 := (valid_size hv).1
  have hn := h.parts.1.1
  have s1 : n ≤ 65536 := by omega
  have s2 : n' ≤ 64 := by omega
  have HN := Lib.hid hn
  have HN' := Lib.hid hn'
  have HS := Lib.hid hsm
  have HV := Lib.hid hv
  have HH := Lib.hid h
  have HK := Lib.hid hK
  clear hsm hv h hK hn hn' hsz hsz1
  generalize applyTo (keptC kept) d.st 0 d.pe = av at *
  go_enter Try.func8, Try.ntmps8
  go_wp2_with fail
  refine (head_true _).mono ?_
  rintro e w1 ⟨rfl, g1⟩
  have d0 : w1.cell? ⟨w.heap.size, 0, none⟩ = some (.slice A n c) := g1.cell (by simp)
  have d1 : w1.cell? ⟨w.heap.size, 1, none⟩ = some (.slice A' n' c') := g1.cell (by simp)
  have gg := g0.trans g1
  clear g0 g1
  go_wp2_with fail
  refine (small_any _ d 600 _ (HH.out.grew gg)).mono ?_
  rw [HS.out]
  rintro e w2 ⟨rfl, g2⟩
  have d0' := g2.cell d0
  have d1' := g2.cell d1
  have gg2 := gg.trans g2
  clear d0 d1 gg g2
  go_wp2_with fail
  refine (rvalid_any _ d _ (HH.out.grew gg2)).mono ?_
  rw [HV.out]
  rintro e w3 ⟨rfl, g3⟩
  have d0 := g3.cell d0'
  have d1 := g3.cell d1'
  have gg3 := gg2.trans g3
  clear d0' d1' gg2 g3
  go_wp2_with fail
  refine (crash_val (HH.out.grew gg3) (HK.out.grew gg3) E1.out).mono ?_
  rintro e w4 ⟨As, ns, cs, As', ns', cs', rfl, f4, g4⟩
  obtain rfl : ns' = 0 := f4.now.parts.2.1.symm
  obtain rfl : ns = n := by have := f4.now.parts.1.1; rw [← this]; show av.length = n; rw [HL.out]; exact HN.out
  have d0' := g4.cell d0
  have d1' := g4.cell d1
  have gg4 := gg3.trans g4
  clear d0 d1 gg3 g4
  have sz4 : w.heap.size < w4.heap.size := World.block_lt_of_cell? _ _ d0'
  have t1 : ((ns : Int) != (ns : Int)) = false := by simp
  go_wp2_with fail
  obtain ⟨w5, hw5⟩ : ∃ w5, w5 = w4.alloc (.cells #[.slice As ns cs, .slice As' 0 cs'] 25) := ⟨_, rfl⟩
  have g5 : Grew w4 w5 := by rw [hw5]; exact (Grew.refl _).alloc _
  have e0 : w5.cell? ⟨w4.heap.size, 0, none⟩ = some (.slice As ns cs) := by rw [hw5]; simp
  have d0 := g5.cell d0'
  have d1 := g5.cell d1'
  have gg5 := gg4.trans g5
  have HB := Lib.hid (f4.now.parts.1.grew g5)
  rw [← hw5]
  clear hw5 d0' d1' gg4 g5 f4 sz4
  go_loopw [7] (fun i wr => ∃ k : Nat, k ≤ ns ∧ i = .int .i64 k ∧ Grew w5 wr) (fun i _ => ns - (intOf i).toNat)
  case atStart => exact ⟨0, Nat.zero_le _, rfl, Grew.refl _⟩
  case round =>
    obtain ⟨k, hk, rfl, hg⟩ := hrel
    obtain ⟨wo, rfl⟩ : ∃ wo : World, wo = wr := ⟨_, rfl⟩
    have d0' := hg.cell d0
    have d1' := hg.cell d1
    have e0' := hg.cell e0
    have ggo := gg5.trans hg
    by_cases hlt : k < ns
    · obtain ⟨x, hx⟩ : ∃ x, av[k]? = some x := ⟨_, List.getElem?_eq_getElem (by rw [HL.out, HN.out]; exact hlt)⟩
      obtain ⟨y, hy⟩ : ∃ y, d.st[k]? = some y := ⟨_, List.getElem?_eq_getElem (by rw [HN.out]; exact hlt)⟩
      obtain ⟨bs, os, rfl, hcs⟩ := (HB.out.grew hg).at_ (by omega)
      obtain ⟨ba, oa, rfl, hca⟩ := (HH.out.grew ggo).parts.1.at_ (by omega)
      have c1 := hcs k x hx
      have c2 := hca k y hy
      have i0 : (0 : Int) ≤ (k : Int) := by omega
      have i1 : (k : Int) < (ns : Int) := by omega
      have OK0 : Hid (okTo d.st d.pe k x 0 = ((x.toNat : Int) == (y.toNat : Int))) := by
        unfold Hid
        rw [okTo_zero, hy, Bool.eq_iff_iff]
        simp [← UInt8.toNat_inj]
        omega
      have OKN := Lib.hid (HT.out k x hx)
      clear hx hy hcs hca d0 d1 e0
      go_wp2_with fail
      go_quiet (fail)
      go_wp2_with fail
      go_loopw [8, 9] (fun v i wr => ∃ j : Nat, j ≤ n' ∧ v = .bool (okTo d.st d.pe k x j) ∧ i = .int .i64 j ∧ Grew wo wr) (fun _ i _ => n' - (intOf i).toNat)
      case atStart => exact ⟨0, Nat.zero_le _, by rw [OK0.out], rfl, (Grew.refl wo).drewN _⟩
      case round =>
        obtain ⟨j, hj, rfl, rfl, hg1⟩ := hrel
        have d0 := hg1.cell d0'
        have d1 := hg1.cell d1'
        have e0 := hg1.cell e0'
        have c1' := hg1.cell c1
        have hgr := hg.trans hg1
        by_cases hjt : j < n'
        · obtain ⟨b, o, z, Ad, nd, cd, rfl, hz, c3, c4, hbz⟩ := (HH.out.grew (ggo.trans hg1)).parts.2.at_ hjt
          have HO := Lib.hid (okTo_succ (st := d.st) (i := k) (b := x) hz)
          obtain ⟨z0, z1⟩ := valid_in HV.out hz
          rw [HN.out, hbz.1] at z1
          generalize okTo d.st d.pe k x j = ok at *
          have sz : w.heap.size < wr.heap.size := World.block_lt_of_cell? _ _ d0
          have sz4 : w4.heap.size < wr.heap.size := World.block_lt_of_cell? _ _ e0
          clear d0' d1' e0' c1 c2 OK0
          have fin : ∀ (u : Bool) (W : World), u = (ok || hasAt k x z) → Grew wo W → ∃ j' : Nat, j' ≤ n' ∧ Value.bool u = .bool (okTo d.st d.pe k x j') ∧ Value.int .i64 ((j : Int) + 1) = .int .i64 j' ∧ Grew wo W := fun u W hu hW =>
            ⟨j + 1, by omega, by rw [hu, HO.out], by go_num, hW⟩
          have FIN := Lib.hid fin
          clear fin HO
          cases ok with
          | true =>
            clear hz hbz
            go_wp2_with fail
            go_quiet (fail)
            go_wp2_with fail
            go_roundw
            case rel => exact FIN.out _ _ rfl ((hg1.alloc _).drewN _)
            case measure => simp [intOf]; omega
          | false =>
            have j0 : decide (z.off ≤ (k : Int)) = true ∨ decide (z.off ≤ (k : Int)) = false := by cases decide (z.off ≤ (k : Int)) <;> simp
            rcases j0 with j0 | j0
            · have hin : z.off ≤ (k : Int) := of_decide_eq_true j0
              by_cases q2 : (k : Int) < z.off + nd
              · have j1 : decide ((k : Int) < z.off + nd) = true := decide_eq_true q2
                obtain ⟨y', hy'⟩ : ∃ y', z.data[k - z.off.toNat]? = some y' := ⟨_, List.getElem?_eq_getElem (by rw [hbz.1]; omega)⟩
                have HA : Hid (((y'.toNat : Int) == (x.toNat : Int)) = (false || hasAt k x z)) := by
                  unfold Hid hasAt
                  rw [hbz.1, j0, j1, show ((k : Int) - z.off).toNat = k - z.off.toNat by omega, hy', Bool.eq_iff_iff]
                  simp [← UInt8.toNat_inj]
                  omega
                obtain ⟨bz, oz, rfl, hcz⟩ := hbz.at_ (by omega)
                have c5 := hcz _ y' hy'
                have e3 : ((k : Int) - z.off).toNat = k - z.off.toNat := by omega
                have f0 : 0 ≤ (k : Int) - z.off := by omega
                have f1 : (k : Int) - z.off < (nd : Int) := by omega
                clear hz hbz hcz hy'
                have sz5 : bz < wr.heap.size := World.block_lt_of_cell? _ _ c5
                have sz6 : bs < wr.heap.size := World.block_lt_of_cell? _ _ c1'
                have wr1 : IntKind.i64.wrap (z.off + nd) = z.off + nd := IntWalk.i64_in _ (by omega)
                have wr2 : IntKind.i64.wrap ((k : Int) - z.off) = (k : Int) - z.off := IntWalk.i64_in _ (by omega)
                go_wp2_with fail
                go_quiet (fail)
                clear wr1 wr2
                go_wp2_with fail
                go_roundw
                case rel => exact FIN.out _ _ HA.out ((hg1.alloc _).drewN _)
                case measure => simp [intOf]; omega
              · have j1 : decide ((k : Int) < z.off + nd) = false := decide_eq_false q2
                have HA : Hid (false = (false || hasAt k x z)) := by unfold Hid hasAt; rw [hbz.1, j1]; simp
                clear hz hbz
                go_wp2_with fail
                go_quiet (fail)
                go_wp2_with fail
                go_roundw
                case rel => exact FIN.out _ _ HA.out ((hg1.alloc _).drewN _)
                case measure => simp [intOf]; omega
            · have HA : Hid (false = (false || hasAt k x z)) := by unfold Hid hasAt; rw [j0]; simp
              clear hz hbz
              go_wp2_with fail
              go_quiet (fail)
              go_wp2_with fail
              go_roundw
              case rel => exact FIN.out _ _ HA.out ((hg1.alloc _).drewN _)
              case measure => simp [intOf]; omega
        · obtain rfl : j = n' := by omega
          have ho := OKN.out
          rw [HN'.out] at ho
          rw [ho]
          clear ho d0' d1' e0'
          go_wp2_with fail
          go_roundw
          case rel => exact ⟨k + 1, by omega, by go_num, hgr⟩
          case measure => simp [intOf]; omega
    · clear d0 d1 e0
      go_wp2_with fail
      go_ret
      exact ⟨rfl, ggo⟩

set_option maxRecDepth 100000 in
set_option maxHeartbeats 16000000 in
theorem tearing_skip (A : Option Addr) (n c : Nat) (A' : Option Addr) (n' c' : Nat) (d : Ds) (Ak : Option Addr) (nk ck : Nat) (w : World) (h : Disk w (.agg #[.slice A n c, .slice A' n' c']) d)
    (hs : smallB d 600 = false ∨ validB d = false ∨ 80 < nk) :
    Calls Try.prog 8 #[.agg #[.slice A n c, .slice A' n' c'], .slice Ak nk ck] w fun e w' => e = .returned (.bool true) ∧ Grew w w' := by
  have g0 : Grew w (w.alloc (.cells #[.slice A n c, .slice A' n' c'] 25)) := (Grew.refl w).alloc _
  have HH := Lib.hid h
  clear h
  cases hsm : smallB d 600 with
  | false =>
    have HS := Lib.hid hsm
    clear hsm hs
    go_enter Try.func8, Try.ntmps8
    go_wp2_with fail
    refine (head_true _).mono ?_
    rintro e w1 ⟨rfl, g1⟩
    have d0 : w1.cell? ⟨w.heap.size, 0, none⟩ = some (.slice A n c) := g1.cell (by simp)
    have d1 : w1.cell? ⟨w.heap.size, 1, none⟩ = some (.slice A' n' c') := g1.cell (by simp)
    have gg := g0.trans g1
    clear g0 g1
    go_wp2_with fail
    refine (small_any _ d 600 _ (HH.out.grew gg)).mono ?_
    rw [HS.out]
    rintro e w2 ⟨rfl, g2⟩
    clear d0 d1
    go_wp2_with fail
    go_ret
    exact ⟨rfl, gg.trans g2⟩
  | true =>
    cases hv : validB d with
    | false =>
      have HS := Lib.hid hsm
      have HV := Lib.hid hv
      clear hsm hs hv
      go_enter Try.func8, Try.ntmps8
      go_wp2_with fail
      refine (head_true _).mono ?_
      rintro e w1 ⟨rfl, g1⟩
      have d0 : w1.cell? ⟨w.heap.size, 0, none⟩ = some (.slice A n c) := g1.cell (by simp)
      have d1 : w1.cell? ⟨w.heap.size, 1, none⟩ = some (.slice A' n' c') := g1.cell (by simp)
      have gg := g0.trans g1
      clear g0 g1
      go_wp2_with fail
      refine (small_any _ d 600 _ (HH.out.grew gg)).mono ?_
      rw [HS.out]
      rintro e w2 ⟨rfl, g2⟩
      have d0' := g2.cell d0
      have d1' := g2.cell d1
      have gg2 := gg.trans g2
      clear d0 d1 gg g2
      go_wp2_with fail
      refine (rvalid_any _ d _ (HH.out.grew gg2)).mono ?_
      rw [HV.out]
      rintro e w3 ⟨rfl, g3⟩
      clear d0' d1'
      go_wp2_with fail
      go_ret
      exact ⟨rfl, gg2.trans g3⟩
    | true =>
      have hk : 80 < nk := by
        rcases hs with hs | hs | hs
        · rw [hsm] at hs; cases hs
        · rw [hv] at hs; cases hs
        · exact hs
      have dd : decide (80 < (nk : Int)) = true := decide_eq_true (by omega)
      have HS := Lib.hid hsm
      have HV := Lib.hid hv
      clear hsm hs hv
      go_enter Try.func8, Try.ntmps8
      go_wp2_with fail
      refine (head_true _).mono ?_
      rintro e w1 ⟨rfl, g1⟩
      have d0 : w1.cell? ⟨w.heap.size, 0, none⟩ = some (.slice A n c) := g1.cell (by simp)
      have d1 : w1.cell? ⟨w.heap.size, 1, none⟩ = some (.slice A' n' c') := g1.cell (by simp)
      have gg := g0.trans g1
      clear g0 g1
      go_wp2_with fail
      refine (small_any _ d 600 _ (HH.out.grew gg)).mono ?_
      rw [HS.out]
      rintro e w2 ⟨rfl, g2⟩
      have d0' := g2.cell d0
      have d1' := g2.cell d1
      have gg2 := gg.trans g2
      clear d0 d1 gg g2
      go_wp2_with fail
      refine (rvalid_any _ d _ (HH.out.grew gg2)).mono ?_
      rw [HV.out]
      rintro e w3 ⟨rfl, g3⟩
      clear d0' d1'
      go_wp2_with fail
      go_ret
      exact ⟨rfl, gg2.trans g3⟩

theorem tearing_true (v : Value) (d : Ds) (Ak : Option Addr) (nk ck : Nat) (kept : List Int) (w : World) (h : Disk w v d) (hK : Ints w Ak nk ck kept) :
    Calls Try.prog 8 #[v, .slice Ak nk ck] w fun e w' => e = .returned (.bool true) ∧ Grew w w' := by
  obtain ⟨A, n, c, A', n', c', rfl, _, _⟩ := h.form
  cases hs : smallB d 600 with
  | false => exact tearing_skip A n c A' n' c' d Ak nk ck w h (.inl hs)
  | true =>
    cases hv : validB d with
    | false => exact tearing_skip A n c A' n' c' d Ak nk ck w h (.inr (.inl hv))
    | true =>
      by_cases hk : 80 < nk
      · exact tearing_skip A n c A' n' c' d Ak nk ck w h (.inr (.inr hk))
      · exact tearing_main A n c A' n' c' d Ak nk ck kept w h hK hs hv (by omega)
end Go.Proofs.Ytneipacdpojjkaa

