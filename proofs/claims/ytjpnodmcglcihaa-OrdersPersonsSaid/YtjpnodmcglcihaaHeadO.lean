/-
  The law's own words: order, short, head.
-/
import Derived.Test.YtjpnodmcglcihaaOpenO
import Derived.Test.YtjpnodmcglcihaaRegB
namespace Go.Proofs.Ytjpnodmcglcihaa
open Go.RowKit Go.Proofs WageMem WageOrd WageRec WageMap WageReg

def anna : ByteArray := ⟨#[97, 110, 110, 97]⟩
def bank : ByteArray := ⟨#[98, 97, 110, 107]⟩
def hO (a r k m : Int) : Ord := ⟨a, ⟨#[97, 110, 110, 97]⟩, ⟨#[98, 97, 110, 107]⟩, r, k, 0, m, false⟩
set_option maxHeartbeats 1000000 in
theorem order_any (a r k m : Int) (w : World) : Calls Try.prog 19 #[.int .i64 a, .int .i64 r, .int .i64 k, .int .i64 m] w fun e w' =>
    e = .returned (.agg #[.int .i64 a, .string ⟨#[97, 110, 110, 97]⟩, .string ⟨#[98, 97, 110, 107]⟩, .int .i64 r, .int .i64 k, .int .i64 0, .int .i64 m, .bool false]) ∧ Grew w w' := by
  go_enter Try.func19, Try.ntmps19
  go_wp2_with fail
  exact bodyPost_ret (v := .agg #[.int .i64 a, .string ⟨#[97, 110, 110, 97]⟩, .string ⟨#[98, 97, 110, 107]⟩, .int .i64 r, .int .i64 k, .int .i64 0, .int .i64 m, .bool false]) (by simp [results, Try.results19, go_sem]) rfl ⟨rfl, (Grew.refl w).alloc _⟩
theorem short_any (A : Option Addr) (n c : Nat) (w : World) (hn : n ≤ 9223372036854775807) {t : Bool} (ht : decide (n ≤ 403) = t) : Calls Try.prog 11 #[.slice A n c] w fun e w' => e = .returned (.bool t) ∧ Grew w w' := by
  have q : decide ((n : Int) ≤ 403) = t := by rw [← ht, Bool.eq_iff_iff, decide_eq_true_iff, decide_eq_true_iff]; omega
  cases t with
  | true =>
    clear ht
    go_enter Try.func11, Try.ntmps11
    go_wp2_with fail
    go_ret
    exact ⟨rfl, Grew.refl _⟩
  | false =>
    clear ht
    go_enter Try.func11, Try.ntmps11
    go_wp2_with fail
    go_ret
    exact ⟨rfl, Grew.refl _⟩
def L2 : List Ord := [hO 7 2 10 500, hO 3 1 20 900]
def L3 : List Ord := [hO 7 2 10 500, hO 3 1 20 900, hO 7 2 30 0]
def oShop : Ord := ⟨7, ⟨#[97, 110, 110, 97]⟩, ⟨#[115, 104, 111, 112]⟩, 2, 30, 0, 0, false⟩
theorem h1 : recL L2 (hO 7 2 30 0) = (L3, 0) := by decide +kernel
theorem h2 : openL L3 ⟨#[97, 110, 110, 97]⟩ 0 9 = [] := by decide +kernel
theorem h3 : openL L3 ⟨#[97, 110, 110, 97]⟩ 0 25 = [hO 3 1 20 900, hO 7 2 10 500] := by decide +kernel
theorem h4 : openL L3 ⟨#[97, 110, 110, 97]⟩ 0 30 = [hO 3 1 20 900] := by decide +kernel
theorem h5 : recL L3 (hO 7 2 29 0) = ([], 6) := by decide +kernel
theorem h6 : recL L3 oShop = ([], 311) := by decide +kernel
theorem h7 : recL L3 (hO 0 1 30 1) = ([], 1) := by decide +kernel
theorem h8 : validB L3 = true := by decide +kernel
theorem h9 : validB [oShop, hO 7 2 10 500] = false := by decide +kernel
/-- A contract's end: a slice of orders of its own and an error's number. -/
def RetF (l : List Ord) (z : Int) (w : World) (r : Ending) (w' : World) : Prop :=
  ∃ A n c, r = .returned (.tuple #[.slice A n c, .int .i64 z]) ∧ l.length = n ∧ w'.ownsRow w.heap.size 24 8 (.slice A n c) n (flatO l) ∧ Grew w w'
theorem record_val {A : Option Addr} {n c : Nat} {l r : List Ord} {o : Ord} {z : Int} {w : World} (h : Ords w A n c l) (hn : n ≤ 410) (ho : Wf [o]) (hr : recL l o = (r, z)) : Calls Try.prog 12 #[.slice A n c, ov o] w (RetF r z w) := by
  have := record_any A n c l o w h hn ho
  rw [hr] at this
  exact this
theorem open_val {A : Option Addr} {n c : Nat} {l r : List Ord} {p : ByteArray} {mo kn : Int} {w : World} (h : Ords w A n c l) (hn : n ≤ 410) (hr : openL l p mo kn = r) : Calls Try.prog 17 #[.slice A n c, .string p, .int .i64 mo, .int .i64 kn] w (RetA r w) := by
  subst hr; exact open_any A n c l p mo kn w h hn
theorem wf_hO (a r k m : Int) (ha : -9223372036854775808 ≤ a ∧ a ≤ 9223372036854775807) (hk : -9223372036854775808 ≤ k ∧ k ≤ 9223372036854775807) : Wf [hO a r k m] := fun x hx => by
  obtain rfl : x = hO a r k m := by simpa using hx
  exact ⟨show (4 : Nat) ≤ maxLen by decide, show (4 : Nat) ≤ maxLen by decide, ha, hk⟩
theorem wf_shop : Wf [oShop] := fun x hx => by
  obtain rfl : x = oShop := by simpa using hx
  exact ⟨by decide, by decide, by decide, by decide⟩
theorem wf_app {l k : List Ord} (h : Wf l) (h' : Wf k) : Wf (l ++ k) := fun x hx => by
  rcases List.mem_append.1 hx with hx | hx
  · exact h x hx
  · exact h' x hx
theorem wf_L2 : Wf L2 := wf_app (wf_hO 7 2 10 500 (by decide) (by decide)) (wf_hO 3 1 20 900 (by decide) (by decide))
theorem wf_L3 : Wf L3 := wf_app wf_L2 (wf_hO 7 2 30 0 (by decide) (by decide))

set_option maxRecDepth 100000 in
set_option maxHeartbeats 16000000 in
theorem head_true (w : World) : Calls Try.prog 10 #[] w fun e w' => e = .returned (.bool true) ∧ Grew w w' := by
  have gg : Grew w w := Grew.refl w
  go_enter Try.func10, Try.ntmps10
  go_wp2_with fail
  refine (order_any _ _ _ _ _).mono ?_
  rintro e v1 ⟨rfl, g⟩
  replace gg := gg.trans g
  clear g
  go_wp2_with fail
  refine (order_any _ _ _ _ _).mono ?_
  rintro e v2 ⟨rfl, g⟩
  replace gg := gg.trans g
  clear g
  have hb := Recs.built (w := v2) oe_ok (t := 24) (l := L2) (n := 2) #[.int .i64 (hO 7 2 10 500).n, .string (hO 7 2 10 500).p, .string (hO 7 2 10 500).c, .int .i64 (hO 7 2 10 500).r, .int .i64 (hO 7 2 10 500).k, .int .i64 (hO 7 2 10 500).f, .int .i64 (hO 7 2 10 500).m, .bool (hO 7 2 10 500).fam, .int .i64 (hO 3 1 20 900).n, .string (hO 3 1 20 900).p, .string (hO 3 1 20 900).c, .int .i64 (hO 3 1 20 900).r, .int .i64 (hO 3 1 20 900).k, .int .i64 (hO 3 1 20 900).f, .int .i64 (hO 3 1 20 900).m, .bool (hO 3 1 20 900).fam] rfl rfl (by decide)
  have HO2 : Hid (Ords _ _ 2 2 L2) := ⟨hb, wf_L2⟩
  have ga := (Grew.refl v2).alloc (.cells #[.int .i64 (hO 7 2 10 500).n, .string (hO 7 2 10 500).p, .string (hO 7 2 10 500).c, .int .i64 (hO 7 2 10 500).r, .int .i64 (hO 7 2 10 500).k, .int .i64 (hO 7 2 10 500).f, .int .i64 (hO 7 2 10 500).m, .bool (hO 7 2 10 500).fam, .int .i64 (hO 3 1 20 900).n, .string (hO 3 1 20 900).p, .string (hO 3 1 20 900).c, .int .i64 (hO 3 1 20 900).r, .int .i64 (hO 3 1 20 900).k, .int .i64 (hO 3 1 20 900).f, .int .i64 (hO 3 1 20 900).m, .bool (hO 3 1 20 900).fam] 24)
  have GA := Lib.hid ga
  clear hb ga
  go_wp2_with fail
  refine (order_any _ _ _ _ _).mono ?_
  rintro e v3 ⟨rfl, g⟩
  replace HO2 := Lib.hid (HO2.out.grew g)
  replace gg := gg.trans (GA.out.trans g)
  clear g GA
  go_wp2_with fail
  refine (record_val (o := hO 7 2 30 0) HO2.out (by decide) (wf_hO _ _ _ _ (by decide) (by decide)) h1).mono ?_
  rintro e v4 ⟨A3, n3, c3, rfl, hl, own, g⟩
  obtain rfl : 3 = n3 := by rw [← hl]; rfl
  have H3 : Hid (Ords v4 A3 3 c3 L3) := ⟨Recs.own rfl own, wf_L3⟩
  replace gg := gg.trans g
  clear g hl own HO2
  go_wp2_with fail
  refine (open_val H3.out (by decide) h2).mono ?_
  rintro e v5 ⟨A5, n5, c5, rfl, h5', g⟩
  obtain rfl : 0 = n5 := by rw [← h5'.1.1]; rfl
  replace H3 := Lib.hid (H3.out.grew g)
  replace gg := gg.trans g
  clear g h5'
  go_wp2_with fail
  refine (open_val H3.out (by decide) h3).mono ?_
  rintro e v6 ⟨A6, n6, c6, rfl, h6', g⟩
  obtain rfl : 2 = n6 := by rw [← h6'.1.1]; rfl
  have H6 := Lib.hid h6'
  replace H3 := Lib.hid (H3.out.grew g)
  replace gg := gg.trans g
  clear g h6'
  go_wp2_with fail
  refine (open_val H3.out (by decide) h4).mono ?_
  rintro e v7 ⟨A7, n7, c7, rfl, h7', g⟩
  obtain rfl : 1 = n7 := by rw [← h7'.1.1]; rfl
  replace H6 := Lib.hid (H6.out.grew g)
  replace H3 := Lib.hid (H3.out.grew g)
  replace gg := gg.trans g
  clear g h7'
  go_wp2_with fail
  refine (order_any _ _ _ _ _).mono ?_
  rintro e v8 ⟨rfl, g⟩
  replace H6 := Lib.hid (H6.out.grew g)
  replace H3 := Lib.hid (H3.out.grew g)
  replace gg := gg.trans g
  clear g
  go_wp2_with fail
  refine (record_val (o := hO 7 2 29 0) H3.out (by decide) (wf_hO _ _ _ _ (by decide) (by decide)) h5).mono ?_
  rintro e v9 ⟨A9, n9, c9, rfl, hl, own, g⟩
  replace H6 := Lib.hid (H6.out.grew g)
  replace H3 := Lib.hid (H3.out.grew g)
  replace gg := gg.trans g
  clear g hl own
  go_wp2_with fail
  refine (order_any _ _ _ _ _).mono ?_
  rintro e v10 ⟨rfl, g⟩
  replace H6 := Lib.hid (H6.out.grew g)
  replace H3 := Lib.hid (H3.out.grew g)
  replace gg := gg.trans g
  clear g
  obtain ⟨v11, hv11⟩ : ∃ y, y = v10.alloc (.cells #[.int .i64 7, .string ⟨#[97, 110, 110, 97]⟩, .string ⟨#[115, 104, 111, 112]⟩, .int .i64 2, .int .i64 30, .int .i64 0, .int .i64 0, .bool false] 24) := ⟨_, rfl⟩
  have g : Grew v10 v11 := by rw [hv11]; exact (Grew.refl v10).alloc _
  have hrs : v11.rangeAt v10.heap.size 0 (oe oShop) := by rw [hv11]; exact range_new v10 (oe oShop) 24
  have HRS := Lib.hid hrs
  obtain ⟨s0, s1, s2, s3, s4, s5, s6, s7⟩ := cells24n hrs
  clear hrs
  go_upto_region 6 with (fail)
  rw [← hv11]
  clear hv11
  replace H6 := Lib.hid (H6.out.grew g)
  replace H3 := Lib.hid (H3.out.grew g)
  replace gg := gg.trans g
  clear g
  go_wp2_with fail
  refine (record_val (o := oShop) H3.out (by decide) wf_shop h6).mono ?_
  rintro e v12 ⟨A12, n12, c12, rfl, hl, own, g⟩
  replace H6 := Lib.hid (H6.out.grew g)
  replace H3 := Lib.hid (H3.out.grew g)
  replace HRS := Lib.hid (range_grew HRS.out g)
  replace gg := gg.trans g
  clear g hl own s0 s1 s2 s3 s4 s5 s6 s7
  go_wp2_with fail
  refine (order_any _ _ _ _ _).mono ?_
  rintro e v13 ⟨rfl, g⟩
  replace H6 := Lib.hid (H6.out.grew g)
  replace H3 := Lib.hid (H3.out.grew g)
  replace HRS := Lib.hid (range_grew HRS.out g)
  replace gg := gg.trans g
  clear g
  go_wp2_with fail
  refine (record_val (o := hO 0 1 30 1) H3.out (by decide) (wf_hO _ _ _ _ (by decide) (by decide)) h7).mono ?_
  rintro e v14 ⟨A14, n14, c14, rfl, hl, own, g⟩
  have gD : Grew v13 v14.drew := g.drew
  replace H6 := Lib.hid (H6.out.grew gD)
  replace H3 := Lib.hid (H3.out.grew gD)
  replace HRS := Lib.hid (range_grew HRS.out gD)
  replace gg := gg.trans gD
  clear g gD hl own
  obtain ⟨b6, o6, x6, rfl, e6, r60⟩ := H6.out.1.at_ oe_ok (show 0 < 2 by decide)
  obtain ⟨b6', o6', x61, ex, e61, r61⟩ := H6.out.1.at_ oe_ok (show 1 < 2 by decide)
  injection ex with ex
  injection ex with ex ey
  subst ex ey
  obtain rfl : hO 3 1 20 900 = x6 := by simpa using e6
  obtain rfl : hO 7 2 10 500 = x61 := by simpa using e61
  obtain ⟨b3, o3, x3, rfl, e3, r30⟩ := H3.out.1.at_ oe_ok (show 0 < 3 by decide)
  obtain rfl : hO 7 2 10 500 = x3 := by simpa [L3] using e3
  have hC : ∀ w', Grew v14.drew w' → (w'.cell? ⟨b6, o6, none⟩ = some (.int .i64 3) ∧ w'.cell? ⟨b6, o6 + 8 + 6, none⟩ = some (.int .i64 500)) ∧ (w'.cell? ⟨v10.heap.size, 0, none⟩ = some (.int .i64 oShop.n) ∧ w'.cell? ⟨v10.heap.size, 1, none⟩ = some (.string oShop.p) ∧ w'.cell? ⟨v10.heap.size, 2, none⟩ = some (.string oShop.c) ∧ w'.cell? ⟨v10.heap.size, 3, none⟩ = some (.int .i64 oShop.r) ∧ w'.cell? ⟨v10.heap.size, 4, none⟩ = some (.int .i64 oShop.k) ∧ w'.cell? ⟨v10.heap.size, 5, none⟩ = some (.int .i64 oShop.f) ∧ w'.cell? ⟨v10.heap.size, 6, none⟩ = some (.int .i64 oShop.m) ∧ w'.cell? ⟨v10.heap.size, 7, none⟩ = some (.bool oShop.fam)) ∧ w'.cell? ⟨b3, o3, none⟩ = some (.int .i64 (hO 7 2 10 500).n) ∧ w'.cell? ⟨b3, o3 + 1, none⟩ = some (.string (hO 7 2 10 500).p) ∧ w'.cell? ⟨b3, o3 + 2, none⟩ = some (.string (hO 7 2 10 500).c) ∧ w'.cell? ⟨b3, o3 + 3, none⟩ = some (.int .i64 (hO 7 2 10 500).r) ∧ w'.cell? ⟨b3, o3 + 4, none⟩ = some (.int .i64 (hO 7 2 10 500).k) ∧ w'.cell? ⟨b3, o3 + 5, none⟩ = some (.int .i64 (hO 7 2 10 500).f) ∧ w'.cell? ⟨b3, o3 + 6, none⟩ = some (.int .i64 (hO 7 2 10 500).m) ∧ w'.cell? ⟨b3, o3 + 7, none⟩ = some (.bool (hO 7 2 10 500).fam) := fun w' g' => by
    have q6 := range_grew r60 g'
    have q61 := range_grew r61 g'
    have q3 := range_grew r30 g'
    simp only [Nat.zero_mul, Nat.add_zero, Nat.one_mul] at q6 q61 q3
    exact ⟨⟨q6 0 _ rfl, q61 6 _ rfl⟩, cells24n (range_grew HRS.out g'), cells24 q3⟩
  clear e6 e61 e3 r60 r61 r30
  go_wp2_with fail
  refine wp_region_G (G := Grew) (by kernel_rfl) Grew.refl 62 ?_
  refine wpAnyG_takes Grew.refl (fun _ _ _ => Grew.trans) (fun _ _ _ _ _ h => h) (List.range 57) (fuel' := 5) (by kernel_rfl) (by kernel_rfl) (by simp only [List.range, List.range.loop, pickOps, List.getElem?_toArray, List.getElem?_cons_zero, List.getElem?_cons_succ]; rfl) ?_
  repeat (first
    | (refine TakeAll.pure (v := ?_) (by rfl) ?_ ?_; rotate_left; (intro w' g'; obtain ⟨⟨a1, a2⟩, ⟨s0, s1, s2, s3, s4, s5, s6, s7⟩, c0, c1, c2, c3, c4, c5, c6, c7⟩ := hC w' g'; go_simp; first | done | with_reducible rfl); (simp only [Act.put, List.setIfInBounds_toArray, List.set_cons_zero, List.set_cons_succ]))
    | (refine TakeAll.skip (by rfl) ?_; (simp only [Act.put, List.setIfInBounds_toArray, List.set_cons_zero, List.set_cons_succ])))
  refine TakeAll.call (by rfl) 14 _ (fun _ => by go_simp; first | done | rfl) (fun w' g' => valid_val (H3.out.grew g') h8) ?_
  simp only [Act.put, List.setIfInBounds_toArray, List.set_cons_zero, List.set_cons_succ]
  repeat (first
    | (refine TakeAll.pure (v := ?_) (by rfl) ?_ ?_; rotate_left; (intro w' g'; obtain ⟨⟨a1, a2⟩, ⟨s0, s1, s2, s3, s4, s5, s6, s7⟩, c0, c1, c2, c3, c4, c5, c6, c7⟩ := hC w' g'; go_simp; first | done | with_reducible rfl); (simp only [Act.put, List.setIfInBounds_toArray, List.set_cons_zero, List.set_cons_succ]))
    | (refine TakeAll.skip (by rfl) ?_; (simp only [Act.put, List.setIfInBounds_toArray, List.set_cons_zero, List.set_cons_succ])))
  refine TakeAll.nil ?_
  refine wpAnyG_stepW (i := 57) (by kernel_rfl) (fuel' := 4) (by kernel_rfl) (by simp only [pickOps, List.getElem?_toArray, List.getElem?_cons_zero, List.getElem?_cons_succ]; rfl) (by rfl) ?_
  intro w1 g1 K hK
  go_simp
  have ga := (Grew.refl w1).alloc (.cells #[.int .i64 oShop.n, .string oShop.p, .string oShop.c, .int .i64 oShop.r, .int .i64 oShop.k, .int .i64 oShop.f, .int .i64 oShop.m, .bool oShop.fam, .int .i64 (hO 7 2 10 500).n, .string (hO 7 2 10 500).p, .string (hO 7 2 10 500).c, .int .i64 (hO 7 2 10 500).r, .int .i64 (hO 7 2 10 500).k, .int .i64 (hO 7 2 10 500).f, .int .i64 (hO 7 2 10 500).m, .bool (hO 7 2 10 500).fam] 24)
  refine hK _ _ ga ?_
  clear hK K
  have BI : Hid (Ords (w1.alloc (.cells #[.int .i64 oShop.n, .string oShop.p, .string oShop.c, .int .i64 oShop.r, .int .i64 oShop.k, .int .i64 oShop.f, .int .i64 oShop.m, .bool oShop.fam, .int .i64 (hO 7 2 10 500).n, .string (hO 7 2 10 500).p, .string (hO 7 2 10 500).c, .int .i64 (hO 7 2 10 500).r, .int .i64 (hO 7 2 10 500).k, .int .i64 (hO 7 2 10 500).f, .int .i64 (hO 7 2 10 500).m, .bool (hO 7 2 10 500).fam] 24)) (some ⟨w1.heap.size, 0, none⟩) 2 2 [oShop, hO 7 2 10 500]) := ⟨Recs.built (w := w1) oe_ok (t := 24) (n := 2) _ rfl rfl (by decide), wf_app wf_shop (wf_hO 7 2 10 500 (by decide) (by decide))⟩
  obtain ⟨w2, hw2⟩ : ∃ x, x = w1.alloc (.cells #[.int .i64 oShop.n, .string oShop.p, .string oShop.c, .int .i64 oShop.r, .int .i64 oShop.k, .int .i64 oShop.f, .int .i64 oShop.m, .bool oShop.fam, .int .i64 (hO 7 2 10 500).n, .string (hO 7 2 10 500).p, .string (hO 7 2 10 500).c, .int .i64 (hO 7 2 10 500).r, .int .i64 (hO 7 2 10 500).k, .int .i64 (hO 7 2 10 500).f, .int .i64 (hO 7 2 10 500).m, .bool (hO 7 2 10 500).fam] 24) := ⟨_, rfl⟩
  rw [← hw2] at BI ga ⊢
  obtain ⟨z2, hz2⟩ : ∃ z, z = w1.heap.size := ⟨_, rfl⟩
  rw [← hz2] at BI ⊢
  clear hw2 hz2
  refine wpAnyG_takes Grew.refl (fun _ _ _ => Grew.trans) (fun _ _ _ _ _ h => h) [58, 59, 60, 61] (fuel' := 0) (by kernel_rfl) (by kernel_rfl) (by simp only [pickOps, List.getElem?_toArray, List.getElem?_cons_zero, List.getElem?_cons_succ]; rfl) ?_
  refine TakeAll.call (by rfl) 14 _ (fun _ => by go_simp; first | done | rfl) (fun w' g' => valid_val (BI.out.grew g') h9) ?_
  simp only [Act.put, List.setIfInBounds_toArray, List.set_cons_zero, List.set_cons_succ]
  repeat (first
    | (refine TakeAll.pure (v := ?_) (by rfl) ?_ ?_; rotate_left; (intro w' g'; go_simp; first | done | with_reducible rfl); (simp only [Act.put, List.setIfInBounds_toArray, List.set_cons_zero, List.set_cons_succ]))
    | (refine TakeAll.skip (by rfl) ?_; (simp only [Act.put, List.setIfInBounds_toArray, List.set_cons_zero, List.set_cons_succ])))
  refine TakeAll.nil ?_
  refine wpAnyG_done (by kernel_rfl) ?_ _
  intro w3 g3
  have gE := ((gg.trans g1).trans ga).trans g3
  clear hC
  go_wp2_with fail
  go_ret
  exact ⟨rfl, gE⟩
end Go.Proofs.Ytjpnodmcglcihaa
