/-
  The reference of the journal: Records.
-/
import Derived.Test.YtneipacdpojjkaaJrefC
namespace Go.Proofs.Ytneipacdpojjkaa
open Go.RowKit Go.Proofs WageMem WageDisk

/-- Slices of bytes that are gathered in a row of the call's own. -/
def Gath (base : Nat) (W : World) (Al : Option Addr) (n cl : Nat) (vs : List Value) (ls : List (List UInt8)) : Prop :=
  W.ownsRow base 22 1 (.slice Al n cl) n vs ∧ ls.length = n ∧ vs.length = n ∧ ∀ (j : Nat) (r : List UInt8), ls[j]? = some r → ∃ (A : Option Addr) (c : Nat), vs[j]? = some (.slice A r.length c) ∧ W.ownsRow base 5 1 (.slice A r.length c) r.length (r.map bv)
section
variable {base : Nat} {W W' : World} {Al : Option Addr} {n cl : Nat} {vs : List Value} {ls : List (List UInt8)}
theorem Gath.grew (h : Gath base W Al n cl vs ls) (g : Grew W W') : Gath base W' Al n cl vs ls :=
  ⟨own_grew h.1 g, h.2.1, h.2.2.1, fun j r hr => by obtain ⟨A, c, h1, h2⟩ := h.2.2.2 j r hr; exact ⟨A, c, h1, own_grew h2 g⟩⟩
theorem Gath.step (h : Gath base W Al n cl vs ls) {r : List UInt8} {A : Option Addr} {c : Nat} (ho : W.ownsRow base 5 1 (.slice A r.length c) r.length (r.map bv))
    {Al' : Option Addr} {cl' : Nat} (hn : W'.ownsRow base 22 1 (.slice Al' (n + 1) cl') (n + 1) (vs ++ [.slice A r.length c])) (hg : W.grownBy W' (Value.slice Al n cl).ownBlock) :
    Gath base W' Al' (n + 1) cl' (vs ++ [.slice A r.length c]) (ls ++ [r]) := by
  refine ⟨hn, by rw [List.length_append, h.2.1]; rfl, by rw [List.length_append, h.2.2.1]; rfl, fun j x hx => ?_⟩
  by_cases hj : j < n
  · rw [List.getElem?_append_left (by rw [h.2.1]; exact hj)] at hx
    obtain ⟨Aj, cj, h1, h2⟩ := h.2.2.2 j x hx
    exact ⟨Aj, cj, by rw [List.getElem?_append_left (by rw [h.2.2.1]; exact hj)]; exact h1, own_grown h2 h.1 (by decide) hg⟩
  · rw [List.getElem?_append_right (by rw [h.2.1]; omega), h.2.1] at hx
    have hjn : j - n = 0 := by
      have := (List.getElem?_eq_some_iff.1 hx).1
      simp at this; omega
    rw [hjn] at hx
    simp at hx
    subst hx
    exact ⟨A, c, by rw [List.getElem?_append_right (by rw [h.2.2.1]; omega), h.2.2.1, hjn]; rfl, own_grown ho h.1 (by decide) hg⟩
theorem Gath.lists (h : Gath base W Al n cl vs ls) : Lists W Al n cl ls := by
  have hs := Sl.own h.1
  refine ⟨h.2.1, hs.1, hs.2.1, hs.2.2.2.2, fun hn => ?_⟩
  obtain ⟨b, o, e, hc⟩ := hs.2.2.2.1 (by intro h0; have := h.2.2.1; rw [h0] at this; simp at this; omega)
  refine ⟨b, o, e, fun j r hr => ?_⟩
  obtain ⟨A, c, h1, h2⟩ := h.2.2.2 j r hr
  exact ⟨A, r.length, c, hc j _ h1, Bytes.own rfl h2⟩
theorem Gath.nil : Gath base W none 0 0 [] [] := ⟨World.ownsRow_nil _ _ _ _, rfl, rfl, fun j r hr => by simp at hr⟩
end
theorem Chain.len_le {all : List UInt8} {a k e : Nat} {xs : List (Nat × Nat)} (h : Chain all a k xs e) : a + xs.length ≤ e := by
  induction h with
  | nil => simp
  | cons hr h ih => rw [List.length_cons]; omega

set_option maxRecDepth 100000 in
set_option maxHeartbeats 4000000 in
theorem rrecs_ok (A : Option Addr) (n c : Nat) (A' : Option Addr) (n' c' : Nat) (d : Ds) (w : World) (h : Disk w (.agg #[.slice A n c, .slice A' n' c']) d) (hv : validB d = true) :
    Calls Try.prog 37 #[.agg #[.slice A n c, .slice A' n' c']] w (RetRecs (jRecs d) (jEnd d) w) := by
  obtain ⟨i0, hi, hz0, hz1, hz2⟩ := info_parts info22
  have hs := (valid_size hv).1
  have hbl := bytesD_len hv
  have e1 : jRecs d = recsOf (bytesD d) := by unfold jRecs; rw [hv, if_pos rfl]
  have e2 : jEnd d = endAt (bytesD d) := by unfold jEnd; rw [hv, if_pos rfl]
  rw [e1, e2]
  obtain ⟨all, hall⟩ : ∃ all, bytesD d = all := ⟨_, rfl⟩
  rw [hall] at hbl ⊢
  have hal : all.length ≤ 65536 := by omega
  have HALL := Lib.hid hall
  have HV := Lib.hid hv
  have g0 : Grew w (w.alloc (.cells #[.slice A n c, .slice A' n' c'] 25)) := (Grew.refl w).alloc _
  have HH := Lib.hid (h.grew g0)
  clear hs hbl e1 e2 hall hv h
  go_enter Try.func37, Try.ntmps37
  go_wp2_with fail
  refine (rvalid_any _ d _ HH.out).mono ?_
  rw [HV.out]
  rintro e w1 ⟨rfl, g1⟩
  have d0 : w1.cell? ⟨w.heap.size, 0, none⟩ = some (.slice A n c) := g1.cell (by simp)
  have d1 : w1.cell? ⟨w.heap.size, 1, none⟩ = some (.slice A' n' c') := g1.cell (by simp)
  go_wp2_with fail
  refine (rbytes_any _ d _ (HH.out.grew g1) HV.out).mono ?_
  rw [HALL.out]
  rintro e w2 ⟨Ab, nb, cb, rfl, hB, g2⟩
  have gg := (g0.trans g1).trans g2
  have hnb := hB.1
  rw [hnb] at hal
  have HB := Lib.hid hB
  have HNB := Lib.hid hnb
  clear g0 g1 g2 d0 d1 hB hnb
  go_wp2_with fail
  go_loopw [5, 6] (fun v i wr => ∃ (a : Nat) (pre : List (Nat × Nat)) (Al : Option Addr) (k cl : Nat) (vs : List Value), a ≤ nb ∧ i = .int .i64 a ∧ v = .slice Al k cl ∧ k ≤ a ∧ Hid (Chain all 0 0 pre a) ∧ Hid (pre.length = k) ∧ Hid (Gath w2.heap.size wr Al k cl vs (pre.map (partOf all))) ∧ Grew w2 wr) (fun _ i _ => nb - (intOf i).toNat)
  case atStart => exact ⟨0, [], none, 0, 0, [], Nat.zero_le _, rfl, rfl, Nat.le_refl _, .nil _ _, rfl, Gath.nil, Grew.refl _⟩
  case round =>
    obtain ⟨a, pre, Al, k, cl, vs, ha, rfl, rfl, hka, HC, HK, HG, hg⟩ := hrel
    cases hr : recAt all a k with
    | none =>
      have HR := Lib.hid hr
      clear hr
      go_wp2_with fail
      refine (rrecord_any Ab nb cb all a k _ (HB.out.grew hg) hal ha).mono ?_
      rw [HR.out]
      rintro e w3 ⟨Ar, nr, cr, rfl, g3⟩
      obtain ⟨p1, p2⟩ := places_of HC.out (by rw [HK.out]; exact HR.out)
      have P1 : Hid (recsOf all = pre.map (partOf all)) := by unfold Hid recsOf; rw [p1]
      have P2 : Hid (endAt all = a) := p2
      clear p1 p2
      go_wp2_with fail
      go_ret2
      rw [P1.out, P2.out]
      exact ⟨Al, k, cl, rfl, (HG.out.grew g3).lists, gg.trans (hg.trans g3)⟩
    | some r =>
      have hl := recAt_len hr
      have HR := Lib.hid hr
      rw [HNB.out] at hl
      obtain ⟨l1, l2, l3, l4⟩ := hl
      have L4 := Lib.hid l4
      obtain ⟨nr, hnr⟩ : ∃ nr, r.length = nr := ⟨_, rfl⟩
      rw [hnr] at l1 l2 l3
      have HNR := Lib.hid hnr
      clear hr l4 hnr
      go_wp2_with fail
      refine (rrecord_any Ab nb cb all a k _ (HB.out.grew hg) hal ha).mono ?_
      rw [HR.out]
      rintro e w3 ⟨Ar, cr, rfl, own3, g3⟩
      rw [HNR.out] at own3
      rw [HNR.out]
      have O3 := Lib.hid own3
      have hle3 := hg.le
      have hle4 := g3.le
      clear own3
      have BI : Hid (Sl (w3.alloc (.cells #[.slice Ar nr cr] 22)) 1 (some ⟨w3.heap.size, 0, none⟩) 1 1 [.slice Ar nr cr]) := by
        refine ⟨Nat.le_refl _, by unfold maxLen; omega, rfl, fun _ => ⟨w3.heap.size, 0, rfl, fun j u hu => ?_⟩, fun h => by cases h⟩
        rw [blk_cell (heap_alloc_new w3 _), Nat.zero_add]
        simpa using hu
      go_wp2_with (at_builtin; refine wpList_append_sl _ rfl (.tmp 26) (.tmp 28) 49 rfl w2.heap.size 22 i0 (.slice none 0 0) 1 24 Try.underlying49 hi hz0 hz1 hz2 rfl (by decide) (.slice Al k cl) k vs rfl ((HG.out.grew g3).1.alloc _) (some ⟨w3.heap.size, 0, none⟩) 1 1 [.slice Ar nr cr] rfl BI.out (by simp [Value.oneCell']) (by unfold maxLen; omega) (by omega) (by simp; omega) ?_; intro v4 w4 own4 hg4 hat4; obtain ⟨A4, c4, rfl⟩ := own_form own4)
      have gal : Grew w3 (w3.alloc (.cells #[.slice Ar nr cr] 22)) := (Grew.refl w3).alloc _
      have g24 : Grew w2 w4 := ((hg.trans g3).trans gal).grown hg4 (fun j hj => ((HG.out.grew g3).1.lt j hj).1)
      have NG : Hid (Gath w2.heap.size w4 A4 (k + 1) c4 (vs ++ [.slice Ar nr cr]) ((pre ++ [(a + 13, nr)]).map (partOf all))) := by
        have o5 : (w3.alloc (.cells #[.slice Ar nr cr] 22)).ownsRow w2.heap.size 5 1 (.slice Ar r.length cr) r.length (r.map bv) := by rw [HNR.out]; exact own_base (own_grew O3.out gal) (by omega)
        have := ((HG.out.grew g3).grew gal).step (r := r) (A := Ar) (c := cr) o5 (Al' := A4) (cl' := c4) (by rw [HNR.out]; exact own4) hg4
        rw [HNR.out] at this
        rw [List.map_append]
        have e : [(a + 13, nr)].map (partOf all) = [r] := by show [partOf all (a + 13, nr)] = [r]; unfold partOf; rw [← HNR.out, ← L4.out]
        rw [e]
        exact this
      have NC : Hid (Chain all 0 0 (pre ++ [(a + 13, nr)]) (a + (13 + nr))) := by
        have := HC.out.snoc (r := r) (by rw [Nat.zero_add, HK.out]; exact HR.out)
        rw [HNR.out] at this
        exact this
      have NK : Hid ((pre ++ [(a + 13, nr)]).length = k + 1) := by unfold Hid; rw [List.length_append, HK.out]; rfl
      clear own4 hg4 hat4 BI O3 HG HC HK
      go_roundw
      case rel => exact ⟨a + (13 + nr), _, A4, k + 1, c4, _, by omega, by go_num, rfl, by omega, NC, NK, NG, g24⟩
      case measure => simp [intOf]; omega

set_option maxHeartbeats 1000000 in
theorem rrecs_any (v : Value) (d : Ds) (w : World) (h : Disk w v d) : Calls Try.prog 37 #[v] w (RetRecs (jRecs d) (jEnd d) w) := by
  obtain ⟨A, n, c, A', n', c', rfl, _, _⟩ := h.form
  cases hv : validB d with
  | true => exact rrecs_ok A n c A' n' c' d w h hv
  | false =>
    have e1 : jRecs d = [] := by unfold jRecs; rw [hv]; rfl
    have e2 : jEnd d = 0 := by unfold jEnd; rw [hv]; rfl
    rw [e1, e2]
    have HV := Lib.hid hv
    have g0 : Grew w (w.alloc (.cells #[.slice A n c, .slice A' n' c'] 25)) := (Grew.refl w).alloc _
    have HH := Lib.hid (h.grew g0)
    clear e1 e2 hv h
    go_enter Try.func37, Try.ntmps37
    go_wp2_with fail
    refine (rvalid_any _ d _ HH.out).mono ?_
    rw [HV.out]
    rintro e w1 ⟨rfl, g1⟩
    go_wp2_with fail
    go_ret2
    exact ⟨none, 0, 0, rfl, Lists.none_, g0.trans g1⟩
theorem rrecs_int {v : Value} {d : Ds} {w : World} (h : Disk w v d) {ls : List (List UInt8)} {e : Int} (hl : jRecs d = ls) (he : (jEnd d : Int) = e) : Calls Try.prog 37 #[v] w (RetRecs ls e w) := by
  have := rrecs_any v d w h
  rw [hl, he] at this
  exact this
end Go.Proofs.Ytneipacdpojjkaa
