/-
  The reference's Same, Numbers.
-/
import Derived.Test.YtjpnodmcglcihaaEqO
namespace Go.Proofs.Ytjpnodmcglcihaa
open Go.RowKit Go.Proofs WageMem WageOrd WageRec WageMap WageReg

theorem exec_neq24 {ρ : Operand → Value} {o : Oper} {x y : Operand} {t : TypeId} {a b : Ord} {r : Bool} (hr : (!eqO a b) = r) (ho : o.op = .binOp .neq 24 x y t) (hx : ρ x = ov a) (hy : ρ y = ov b) (w : World) : (execOp ρ o).run Try.prog w = .ok (.value (.bool r)) w := by
  subst hr
  unfold execOp
  simp only [ho, Sem.run_bind, hx, hy, guard24, neq24, Result.andThen, Sem.run_pure]
theorem takes_eq {α : Type} {xs ys : List α} {k : Nat} {x y : α} (hx : xs[k]? = some x) (hy : ys[k]? = some y) (h : xs.take k = ys.take k) (hxy : x = y) : xs.take (k + 1) = ys.take (k + 1) := by
  rw [List.take_add_one, List.take_add_one, hx, hy, h, hxy]
set_option maxRecDepth 100000 in
set_option maxHeartbeats 4000000 in
theorem same_any (A B : Option Addr) (n m c e : Nat) (xs ys : List Ord) (w : World) (ha : Ords w A n c xs) (hb : Ords w B m e ys) :
    Calls Try.prog 16 #[.slice A n c, .slice B m e] w fun r w' => r = .returned (.bool (decide (xs = ys))) ∧ Grew w w' := by
  have HA := Lib.hid ha
  have HB := Lib.hid hb
  have hn := ha.1.le
  have hm := hb.1.le
  have LA := Lib.hid ha.1.1
  have LB := Lib.hid hb.1.1
  clear ha hb
  by_cases hnm : n = m
  · subst hnm
    have q : ((n : Int) != (n : Int)) = false := by simp
    go_enter Try.func16, Try.ntmps16
    go_wp2_with fail
    go_loopw [5] (fun i wr => ∃ k : Nat, k ≤ n ∧ i = .int .i64 k ∧ Hid (xs.take k = ys.take k) ∧ Grew w wr) (fun i _ => n - (intOf i).toNat)
    case atStart => exact ⟨0, Nat.zero_le _, rfl, rfl, Grew.refl _⟩
    case round =>
      obtain ⟨k, hk, rfl, HE, hg⟩ := hrel
      by_cases hlt : k < n
      · obtain ⟨b, o, x, rfl, hx, hrx⟩ := (HA.out.1.grew hg.drew).at_ oe_ok hlt
        obtain ⟨b', o', y, rfl, hy, hry⟩ := (HB.out.1.grew hg.drew).at_ oe_ok hlt
        have HX := Lib.hid hx
        have HY := Lib.hid hy
        have i0 : (0 : Int) ≤ (k : Int) := by omega
        have i1 : (k : Int) < (n : Int) := by omega
        have hC : ∀ w', Grew wr.drew w' → (w'.cell? ⟨b, o + k * 8, none⟩ = some (.int .i64 x.n) ∧ w'.cell? ⟨b, o + k * 8 + 1, none⟩ = some (.string x.p) ∧ w'.cell? ⟨b, o + k * 8 + 2, none⟩ = some (.string x.c) ∧ w'.cell? ⟨b, o + k * 8 + 3, none⟩ = some (.int .i64 x.r) ∧ w'.cell? ⟨b, o + k * 8 + 4, none⟩ = some (.int .i64 x.k) ∧ w'.cell? ⟨b, o + k * 8 + 5, none⟩ = some (.int .i64 x.f) ∧ w'.cell? ⟨b, o + k * 8 + 6, none⟩ = some (.int .i64 x.m) ∧ w'.cell? ⟨b, o + k * 8 + 7, none⟩ = some (.bool x.fam)) ∧ w'.cell? ⟨b', o' + k * 8, none⟩ = some (.int .i64 y.n) ∧ w'.cell? ⟨b', o' + k * 8 + 1, none⟩ = some (.string y.p) ∧ w'.cell? ⟨b', o' + k * 8 + 2, none⟩ = some (.string y.c) ∧ w'.cell? ⟨b', o' + k * 8 + 3, none⟩ = some (.int .i64 y.r) ∧ w'.cell? ⟨b', o' + k * 8 + 4, none⟩ = some (.int .i64 y.k) ∧ w'.cell? ⟨b', o' + k * 8 + 5, none⟩ = some (.int .i64 y.f) ∧ w'.cell? ⟨b', o' + k * 8 + 6, none⟩ = some (.int .i64 y.m) ∧ w'.cell? ⟨b', o' + k * 8 + 7, none⟩ = some (.bool y.fam) := fun w' g' => ⟨cells24 (range_grew hrx g'), cells24 (range_grew hry g')⟩
        clear hx hy hrx hry
        cases hxy : eqO x y with
        | true =>
          have HT := Lib.hid (takes_eq HX.out HY.out HE.out (of_decide_eq_true hxy))
          go_wp2_with fail
          refine wp_region_seq (by kernel_rfl) Grew.refl (fun _ _ _ => Grew.trans) (fun _ _ _ _ _ h => h) (by kernel_rfl) ?_
          repeat (first
            | (refine TakeAll.pure (v := ?_) (by rfl) ?_ ?_; rotate_left; (intro w' g'; obtain ⟨⟨c0, c1, c2, c3, c4, c5, c6, c7⟩, d0, d1, d2, d3, d4, d5, d6, d7⟩ := hC w' g';  go_simp; first | done | with_reducible rfl); (simp only [Act.put, List.setIfInBounds_toArray, List.set_cons_zero, List.set_cons_succ]))
            | (refine TakeAll.skip (by rfl) ?_; (simp only [Act.put, List.setIfInBounds_toArray, List.set_cons_zero, List.set_cons_succ])))
          refine TakeAll.pure (v := .bool false) (by rfl) (fun w' _ => exec_neq24 (a := x) (b := y) (by rw [hxy]; rfl) rfl rfl rfl w') ?_
          simp only [Act.put, List.setIfInBounds_toArray, List.set_cons_zero, List.set_cons_succ]
          refine TakeAll.nil ?_
          intro w5 g5
          have gE := (hg.drew).trans g5
          clear hC
          go_wp2_with fail
          go_roundw
          case rel => exact ⟨k + 1, by omega, by go_num, HT, gE⟩
          case measure => simp [intOf]; omega
        | false =>
          have HN : Hid (¬ xs = ys) := by
            intro h
            have h1 := HX.out
            rw [h, HY.out] at h1
            injection h1 with h1
            exact (of_decide_eq_false hxy) h1.symm
          go_wp2_with fail
          refine wp_region_seq (by kernel_rfl) Grew.refl (fun _ _ _ => Grew.trans) (fun _ _ _ _ _ h => h) (by kernel_rfl) ?_
          repeat (first
            | (refine TakeAll.pure (v := ?_) (by rfl) ?_ ?_; rotate_left; (intro w' g'; obtain ⟨⟨c0, c1, c2, c3, c4, c5, c6, c7⟩, d0, d1, d2, d3, d4, d5, d6, d7⟩ := hC w' g';  go_simp; first | done | with_reducible rfl); (simp only [Act.put, List.setIfInBounds_toArray, List.set_cons_zero, List.set_cons_succ]))
            | (refine TakeAll.skip (by rfl) ?_; (simp only [Act.put, List.setIfInBounds_toArray, List.set_cons_zero, List.set_cons_succ])))
          refine TakeAll.pure (v := .bool true) (by rfl) (fun w' _ => exec_neq24 (a := x) (b := y) (by rw [hxy]; rfl) rfl rfl rfl w') ?_
          simp only [Act.put, List.setIfInBounds_toArray, List.set_cons_zero, List.set_cons_succ]
          refine TakeAll.nil ?_
          intro w5 g5
          have gE := (hg.drew).trans g5
          clear hC
          go_wp2_with fail
          go_ret
          exact ⟨ret_bool (decide_eq_false HN.out).symm, gE⟩
      · have HN : Hid (xs = ys) := by
          have h1 := HE.out
          rw [List.take_of_length_le (by rw [LA.out]; omega), List.take_of_length_le (by rw [LB.out]; omega)] at h1
          exact h1
        go_wp2_with fail
        go_ret
        exact ⟨ret_bool (decide_eq_true HN.out).symm, hg⟩
  · have q : ((n : Int) != (m : Int)) = true := by rw [bne_iff_ne]; omega
    have q' : (n != m) = true := by rw [bne_iff_ne]; exact hnm
    have HN : Hid (¬ xs = ys) := by intro h; apply hnm; rw [← LA.out, ← LB.out, h]
    clear hnm
    go_enter Try.func16, Try.ntmps16
    go_wp2_with fail
    go_ret
    exact ⟨ret_bool (decide_eq_false HN.out).symm, Grew.refl _⟩
theorem same_val {A B : Option Addr} {n m c e : Nat} {xs ys : List Ord} {w : World} {t : Bool} (ha : Ords w A n c xs) (hb : Ords w B m e ys) (ht : decide (xs = ys) = t) :
    Calls Try.prog 16 #[.slice A n c, .slice B m e] w fun r w' => r = .returned (.bool t) ∧ Grew w w' := by subst ht; exact same_any A B n m c e xs ys w ha hb

/-! ### Numbers -/
def noneTo (l : List Ord) (a : Int) (k : Nat) : Bool := !((l.take k).any fun x => x.n == a)
theorem noneTo_succ {l : List Ord} {a : Int} {k : Nat} {x : Ord} (h : l[k]? = some x) : noneTo l a (k + 1) = (noneTo l a k && (x.n != a)) := by
  unfold noneTo
  rw [List.take_add_one, h, List.any_append]
  simp [Bool.not_or, bne]
theorem cnt_succ {l : List Ord} {p : ByteArray} {k : Nat} {x : Ord} (h : l[k]? = some x) : (cnt l p (k + 1) : Int) = cnt l p k + (if (decide (x.p = p) && noneTo l x.n k) = true then 1 else 0) := by
  conv => lhs; unfold cnt
  simp only [h]
  unfold noneTo
  split <;> simp_all
theorem noneTo_false {l : List Ord} {a : Int} {q k : Nat} {y : Ord} (hy : l[q]? = some y) (hq : q < k) (e : y.n = a) : noneTo l a k = false := by
  unfold noneTo
  rw [Bool.not_eq_false', List.any_eq_true]
  exact ⟨y, List.mem_iff_getElem?.2 ⟨q, by rw [List.getElem?_take, if_pos hq]; exact hy⟩, by simpa using e⟩

set_option maxRecDepth 100000 in
set_option maxHeartbeats 4000000 in
theorem numbers_any (A : Option Addr) (n c : Nat) (l : List Ord) (p : ByteArray) (w : World) (h : Ords w A n c l) (hn : n ≤ 1000) :
    Calls Try.prog 23 #[.slice A n c, .string p] w fun r w' => r = .returned (.int .i64 (cnt l p n : Int)) ∧ Grew w w' := by
  have HH := Lib.hid h
  clear h
  go_enter Try.func23, Try.ntmps23
  go_wp2_with fail
  go_loopw [5, 6] (fun s i wr => ∃ (k : Nat) (z : Int), k ≤ n ∧ i = .int .i64 k ∧ s = .int .i64 z ∧ Hid (z = cnt l p k) ∧ 0 ≤ z ∧ z ≤ k ∧ Grew w wr) (fun _ i _ => n - (intOf i).toNat)
  case atStart => exact ⟨0, 0, Nat.zero_le _, rfl, rfl, rfl, by omega, by omega, Grew.refl _⟩
  case round =>
    obtain ⟨k, z, hk, rfl, rfl, HZ, z0, z1, hg⟩ := hrel
    by_cases hlt : k < n
    · obtain ⟨b, o, x, rfl, hx, hr⟩ := (HH.out.1.grew hg).at_ oe_ok hlt
      have HX := Lib.hid hx
      have i0 : (0 : Int) ≤ (k : Int) := by omega
      have i1 : (k : Int) < (n : Int) := by omega
      obtain ⟨c0, c1, -, -, -, -, -, -⟩ := cells24 hr
      have HR := Lib.hid hr
      obtain ⟨t0, ht0⟩ : ∃ t, decide (x.p = p) = t := ⟨_, rfl⟩
      have q0 : (x.p.toList == p.toList) = t0 := by rw [str_eq]; exact ht0
      have HT0 := Lib.hid ht0
      obtain ⟨wo, rfl⟩ : ∃ wo : World, wo = wr := ⟨_, rfl⟩
      clear hx hr ht0
      go_wp2_with fail
      clear q0
      go_loopw [7, 8] (fun f j y => ∃ (q : Nat) (t : Bool), q ≤ k ∧ j = .int .i64 q ∧ f = .bool t ∧ Hid (t = (decide (x.p = p) && noneTo l x.n q)) ∧ Grew wo y) (fun _ j _ => k - (intOf j).toNat)
      case atStart => exact ⟨0, t0, Nat.zero_le _, rfl, rfl, by unfold Hid; rw [HT0.out]; simp [noneTo], Grew.refl _⟩
      case round =>
        obtain ⟨wi, rfl⟩ : ∃ wi : World, wi = wr := ⟨_, rfl⟩
        obtain ⟨q, t, hq, rfl, rfl, HTT, hgi⟩ := hrel
        by_cases hqk : q < k
        · cases t with
          | true =>
            obtain ⟨b', o', y, ey, hy, hry⟩ := (HH.out.1.grew ((hg.trans hgi).drew)).at_ oe_ok (show q < n by omega)
            injection ey with ey
            injection ey with ey ey2
            subst ey ey2
            have HY := Lib.hid hy
            have j0 : (0 : Int) ≤ (q : Int) := by omega
            have j1 : (q : Int) < (n : Int) := by omega
            have j2 : decide (q < k) = true := decide_eq_true hqk
            have j3 : decide ((q : Int) < (k : Int)) = true := decide_eq_true (by omega)
            have hC : ∀ w', Grew wi.drew w' → w'.cell? ⟨b, o + k * 8, none⟩ = some (.int .i64 x.n) ∧ w'.cell? ⟨b, o + q * 8, none⟩ = some (.int .i64 y.n) := fun w' g' => ⟨range_grew HR.out ((hgi.drew).trans g') 0 _ rfl, range_grew hry g' 0 _ rfl⟩
            obtain ⟨e, he⟩ : ∃ e, (y.n != x.n) = e := ⟨_, rfl⟩
            have HN : Hid (e = (decide (x.p = p) && noneTo l x.n (q + 1))) := by
              unfold Hid
              rw [noneTo_succ HY.out, ← Bool.and_assoc, ← HTT.out, he]; rfl
            clear hy hry
            go_wp2_with fail
            refine wp_region_seq (by kernel_rfl) Grew.refl (fun _ _ _ => Grew.trans) (fun _ _ _ _ _ h => h) (by kernel_rfl) ?_
            repeat (first
              | (refine TakeAll.pure (v := ?_) (by rfl) ?_ ?_; rotate_left; (intro w' g'; obtain ⟨c0, c1⟩ := hC w' g'; go_simp; first | done | with_reducible rfl); (simp only [Act.put, List.setIfInBounds_toArray, List.set_cons_zero, List.set_cons_succ]))
              | (refine TakeAll.skip (by rfl) ?_; (simp only [Act.put, List.setIfInBounds_toArray, List.set_cons_zero, List.set_cons_succ])))
            refine TakeAll.nil ?_
            intro w5 g5
            have gE := (hgi.drew).trans g5
            clear hC he
            go_wp2_with fail
            go_roundw
            case rel => exact ⟨q + 1, e, by omega, by go_num, rfl, HN, gE⟩
            case measure => simp [intOf]; omega
          | false =>
            have HF : Hid ((decide (x.p = p) && noneTo l x.n k) = false) := by
              unfold Hid
              have h1 := HTT.out
              cases hp : decide (x.p = p) with
              | false => rfl
              | true =>
                rw [hp, Bool.true_and] at h1
                rw [Bool.true_and, Bool.eq_false_iff]
                intro h2
                unfold noneTo at h1 h2
                rw [eq_comm, Bool.not_eq_false', List.any_eq_true] at h1
                obtain ⟨y, hy, hy2⟩ := h1
                simp only [Bool.not_eq_true', List.any_eq_false] at h2
                exact h2 y ((List.take_prefix_take_left (by omega)).subset hy) hy2
            have j2 : decide (q < k) = true := decide_eq_true hqk
            have HC : Hid (z = cnt l p (k + 1)) := by unfold Hid; rw [cnt_succ HX.out, if_neg (by rw [HF.out]; simp), ← HZ.out]; omega
            have gE := hg.trans hgi
            go_wp2_with fail
            go_roundw
            case rel => exact ⟨k + 1, z, by omega, by go_num, rfl, HC, z0, by omega, gE⟩
            case measure => simp [intOf]; omega
        · obtain rfl : q = k := by omega
          have j2 : decide (q < q) = false := decide_eq_false (by omega)
          have gE := hg.trans hgi
          cases t with
          | true =>
            have HC : Hid (z + 1 = cnt l p (q + 1)) := by unfold Hid; rw [cnt_succ HX.out, if_pos HTT.out.symm, ← HZ.out]
            go_wp2_with fail
            go_roundw
            case rel => exact ⟨q + 1, z + 1, by omega, by go_num, rfl, HC, by omega, by omega, gE⟩
            case measure => simp [intOf]; omega
          | false =>
            have HC : Hid (z = cnt l p (q + 1)) := by unfold Hid; rw [cnt_succ HX.out, if_neg (by rw [← HTT.out]; simp), ← HZ.out]; omega
            go_wp2_with fail
            go_roundw
            case rel => exact ⟨q + 1, z, by omega, by go_num, rfl, HC, z0, by omega, gE⟩
            case measure => simp [intOf]; omega
    · have HE : Hid (z = cnt l p n) := by have := HZ.out; rwa [show k = n by omega] at this
      go_wp2_with fail
      go_ret
      exact ⟨ret_int HE.out, hg⟩
theorem numbers_val {A : Option Addr} {n c : Nat} {l : List Ord} {p : ByteArray} {w : World} {z : Int} (h : Ords w A n c l) (hn : n ≤ 1000) (hz : (cnt l p n : Int) = z) :
    Calls Try.prog 23 #[.slice A n c, .string p] w fun r w' => r = .returned (.int .i64 z) ∧ Grew w w' := by subst hz; exact numbers_any A n c l p w h hn
end Go.Proofs.Ytjpnodmcglcihaa
