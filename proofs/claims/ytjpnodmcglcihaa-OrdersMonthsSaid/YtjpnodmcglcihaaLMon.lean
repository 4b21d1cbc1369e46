/-
  The law OrdersMonths, walked.
-/
import Derived.Test.YtjpnodmcglcihaaEqO
import Derived.Test.YtjpnodmcglcihaaMapR
namespace Go.Proofs.Ytjpnodmcglcihaa
open Go.RowKit Go.Proofs WageMem WageOrd WageRec WageMap WageReg

theorem open_later {l : List Ord} {p : ByteArray} {mo mo' kn : Int} {x : Ord} (h : x ∈ openL l p mo kn) (hm : mo ≤ mo') : x ∈ openL l p mo' kn := by
  cases hv : validB l with
  | false => rw [openL_not hv] at h; simp at h
  | true =>
    rw [mem_openL hv] at h ⊢
    refine ⟨h.1, ?_⟩
    have h2 := h.2
    unfold opB at *
    simp only [Bool.and_eq_true, decide_eq_true_eq] at h2 ⊢
    exact ⟨by omega, h2.2⟩
def markM (r : List Ord) : Nat → List (Ord × Bool)
  | 0 => []
  | i + 1 => match r[i]? with
    | some o => alPut o true (markM r i)
    | none => markM r i
theorem markM_succ {r : List Ord} {k : Nat} {x : Ord} (h : r[k]? = some x) : markM r (k + 1) = alPut x true (markM r k) := by
  conv => lhs; unfold markM
  simp [h]
theorem markM_find {r : List Ord} {x : Ord} : ∀ k, x ∈ r.take k → alFind x (markM r k) = some true
  | 0, h => by simp at h
  | k + 1, h => by
    unfold markM
    rw [List.take_add_one] at h
    cases hr : r[k]? with
    | none => rw [hr] at h; simp at h; exact markM_find k h
    | some o =>
      rw [hr] at h
      simp only
      by_cases e : x = o
      · subst e; exact alFind_put_self _ _ _
      · rw [alFind_put_ne _ e]
        refine markM_find k ?_
        rcases List.mem_append.1 h with h | h
        · exact h
        · simp at h; exact absurd h e
abbrev MapB := MapIs ov (fun b : Bool => Value.bool b)
theorem map39 : Try.prog.underlying 39 = some (.map 24 4) := by kernel_rfl
theorem zero4 (w : World) : (zeroValue 4).run Try.prog w = .ok (.bool false) w := by kernel_rfl

set_option maxRecDepth 100000 in
set_option maxHeartbeats 8000000 in
theorem mon_skip (A : Option Addr) (n c : Nat) (l : List Ord) (p : ByteArray) (mo la kn : Int) (w : World) (_h : Ords w A n c l) (_m0 : -9223372036854775808 ≤ mo) (_m1 : mo ≤ 9223372036854775807) (_l0 : 0 ≤ la) (_l1 : la ≤ 65535) (hn : n ≤ 9223372036854775807) (hs : decide (n ≤ 403) = false) : Calls Try.prog 9 #[.slice A n c, .string p, .int .i64 mo, .int .u16 la, .int .i64 kn] w fun e w' => e = .returned (.bool true) ∧ Grew w w' := by
  have HS := Lib.hid hs
  clear hs
  go_enter Try.func9, Try.ntmps9
  go_wp2_with fail
  refine (head_true _).mono ?_
  rintro e v1 ⟨rfl, g1⟩
  go_wp2_with fail
  refine (short_any A n c _ hn HS.out).mono ?_
  rintro e v2 ⟨rfl, g2⟩
  go_wp2_with fail
  go_ret
  exact ⟨rfl, g1.trans g2⟩
set_option maxRecDepth 100000 in
set_option maxHeartbeats 8000000 in
theorem mon_skip2 (A : Option Addr) (n c : Nat) (l : List Ord) (p : ByteArray) (mo la kn : Int) (w : World) (_h : Ords w A n c l) (_m0 : -9223372036854775808 ≤ mo) (_m1 : mo ≤ 9223372036854775807) (_l0 : 0 ≤ la) (_l1 : la ≤ 65535) (hn : n ≤ 403) (hs : 1199 < mo) : Calls Try.prog 9 #[.slice A n c, .string p, .int .i64 mo, .int .u16 la, .int .i64 kn] w fun e w' => e = .returned (.bool true) ∧ Grew w w' := by
  have HS := Lib.hid (decide_eq_true hn)
  have q : decide (1199 < mo) = true := decide_eq_true hs
  go_enter Try.func9, Try.ntmps9
  go_wp2_with fail
  refine (head_true _).mono ?_
  rintro e v1 ⟨rfl, g1⟩
  go_wp2_with fail
  refine (short_any A n c _ (by omega) HS.out).mono ?_
  rintro e v2 ⟨rfl, g2⟩
  go_wp2_with fail
  go_ret
  exact ⟨rfl, g1.trans g2⟩

set_option maxRecDepth 100000 in
set_option maxHeartbeats 8000000 in
theorem mon_main (A : Option Addr) (n c : Nat) (l : List Ord) (p : ByteArray) (mo la kn : Int) (w : World) (h : Ords w A n c l) (m0 : -9223372036854775808 ≤ mo) (m1 : mo ≤ 9223372036854775807) (l0 : 0 ≤ la) (l1 : la ≤ 65535) (hn : n ≤ 403) (hmo : mo ≤ 1199) : Calls Try.prog 9 #[.slice A n c, .string p, .int .i64 mo, .int .u16 la, .int .i64 kn] w fun e w' => e = .returned (.bool true) ∧ Grew w w' := by
  have HH := Lib.hid h
  have HS := Lib.hid (decide_eq_true hn)
  have q : decide (1199 < mo) = false := decide_eq_false (by omega)
  have hmm := @run_makeMap Try.prog
  obtain ⟨r, hr⟩ : ∃ r, openL l p (mo + la) kn = r := ⟨_, rfl⟩
  obtain ⟨s, hs⟩ : ∃ s, openL l p mo kn = s := ⟨_, rfl⟩
  have HR := Lib.hid hr
  have HSS := Lib.hid hs
  have HSUB : Hid (∀ x ∈ s, x ∈ r) := fun x hx => by rw [← hr]; rw [← hs] at hx; exact open_later hx (by omega)
  clear h hr hs
  go_enter Try.func9, Try.ntmps9
  go_wp2_with fail
  refine (head_true _).mono ?_
  rintro e v1 ⟨rfl, g1⟩
  go_wp2_with fail
  refine (short_any A n c _ (by omega) HS.out).mono ?_
  rintro e v2 ⟨rfl, g2⟩
  have M1 := MapIs.made (ek := ov) (ev := fun b : Bool => Value.bool b) v2
  obtain ⟨wm, hwm⟩ : ∃ x, x = v2.alloc (.map #[] 0) := ⟨_, rfl⟩
  have gm : Grew w wm := by rw [hwm]; exact (g1.trans g2).alloc _
  rw [← hwm] at M1
  have hle1 : w.heap.size ≤ v2.heap.size := (g1.trans g2).le
  have HM1 := Lib.hid M1
  have GM := Lib.hid gm
  clear M1 gm g1 g2
  go_wp2_with fail
  rw [← hwm]
  clear hwm hmm
  refine (open_val (HH.out.grew GM.out) (by omega) HR.out).mono ?_
  rintro e v3 ⟨A3, n3, cc3, rfl, h3, g3⟩
  have H3 := Lib.hid h3
  have hn3 := h3.1.le
  have hl3 := Lib.hid h3.1.1
  replace HM1 := Lib.hid (HM1.out.grew g3)
  replace GM := Lib.hid (GM.out.trans g3)
  clear h3 g3
  go_wp2_with fail
  replace HH := Lib.hid (HH.out.grew GM.out)
  obtain ⟨b1, hb1⟩ : ∃ b, b = v2.heap.size := ⟨_, rfl⟩
  have HB := Lib.hid hb1
  rw [← hb1] at HM1 hle1
  clear hb1
  rw [← HB.out]
  clear HB
  go_loopw [36] (fun i wr => ∃ k : Nat, k ≤ n3 ∧ i = .int .i64 k ∧ Hid (MapB wr b1 (markM r k)) ∧ Hid (Ords wr A3 n3 cc3 r) ∧ Hid (Ords wr A n c l) ∧ Grew w wr) (fun i _ => n3 - (intOf i).toNat)
  case atStart => exact ⟨0, Nat.zero_le _, rfl, HM1, H3, HH, GM.out⟩
  case round =>
    clear HM1 H3 HH GM
    obtain ⟨k, hk, rfl, HM1, H3, HH, hg⟩ := hrel
    by_cases hlt : k < n3
    · obtain ⟨b, o, x, rfl, hx, hr⟩ := H3.out.1.at_ oe_ok hlt
      have HX := Lib.hid hx
      have i0 : (0 : Int) ≤ (k : Int) := by omega
      have i1 : (k : Int) < (n3 : Int) := by omega
      obtain ⟨c0, c1, c2, c3, c4, c5, c6, c7⟩ := cells24 hr
      obtain ⟨wa, hwa⟩ : ∃ y, y = wr.alloc (.cells #[.int .i64 x.n, .string x.p, .string x.c, .int .i64 x.r, .int .i64 x.k, .int .i64 x.f, .int .i64 x.m, .bool x.fam] 24) := ⟨_, rfl⟩
      have ga : Grew wr wa := by rw [hwa]; exact (Grew.refl wr).alloc _
      have hrx : wa.rangeAt wr.heap.size 0 (oe x) := by rw [hwa]; exact range_new wr (oe x) 24
      obtain ⟨x0, x1, x2, x3, x4, x5, x6, x7⟩ := cells24n hrx
      have MA := HM1.out.grew ga
      obtain ⟨wb, up, M2, gb⟩ := MA.update key24 map39 x true
      rw [← markM_succ HX.out] at M2
      rw [ov_eq] at up
      have HM2 := Lib.hid M2
      have H3' : Hid (Ords wb (some ⟨b, o, none⟩) n3 cc3 r) := ⟨recs_kept (H3.out.grew ga).1 gb (fun p v hc => cell_ne_map hc MA), H3.out.2⟩
      have HH' : Hid (Ords wb A n c l) := ⟨recs_kept (HH.out.grew ga).1 gb (fun p v hc => cell_ne_map hc MA), HH.out.2⟩
      have gE : Grew w wb := (hg.trans ga).grown gb (fun j hj => by injection hj with hj; omega)
      clear M2 gb MA hx hr hrx
      go_upto_region 8 with (fail)
      rw [← hwa]
      clear hwa c0 c1 c2 c3 c4 c5 c6 c7
      go_wp2_with fail
      go_roundw
      case rel => exact ⟨k + 1, by omega, by go_num, HM2, H3', HH', gE⟩
      case measure => simp [intOf]; omega
    · have HMr : Hid (∀ x ∈ r, alFind x (markM r k) = some true) := fun x hx => markM_find k (by rw [List.take_of_length_le (by rw [hl3.out]; omega)]; exact hx)
      go_wp2_with fail
      refine (open_val HH.out (by omega) HSS.out).mono ?_
      rintro e v4 ⟨A4, n4, cc4, rfl, h4, g4⟩
      have H4 := Lib.hid h4
      have hn4 := h4.1.le
      have HM4 := Lib.hid (HM1.out.grew g4)
      have GM := Lib.hid (hg.trans g4)
      clear h4 g4 HM1 H3 HH hg
      go_wp2_with fail
      go_loopw [49] (fun i x => ∃ q : Nat, q ≤ n4 ∧ i = .int .i64 q ∧ Grew v4 x) (fun i _ => n4 - (intOf i).toNat)
      case atStart => exact ⟨0, Nat.zero_le _, rfl, Grew.refl _⟩
      case round =>
        obtain ⟨wo, rfl⟩ : ∃ wo : World, wo = wr := ⟨_, rfl⟩
        obtain ⟨q, hq, rfl, hg⟩ := hrel
        by_cases hlt2 : q < n4
        · obtain ⟨b, o, x, rfl, hx, hr⟩ := (H4.out.1.grew hg).at_ oe_ok hlt2
          have hin := HSUB.out x (List.mem_of_getElem? hx)
          have i0 : (0 : Int) ≤ (q : Int) := by omega
          have i1 : (q : Int) < (n4 : Int) := by omega
          obtain ⟨c0, c1, c2, c3, c4, c5, c6, c7⟩ := cells24 hr
          obtain ⟨wa, hwa⟩ : ∃ y, y = wo.alloc (.cells #[.int .i64 x.n, .string x.p, .string x.c, .int .i64 x.r, .int .i64 x.k, .int .i64 x.f, .int .i64 x.m, .bool x.fam] 24) := ⟨_, rfl⟩
          have ga : Grew wo wa := by rw [hwa]; exact (Grew.refl wo).alloc _
          have hrx : wa.rangeAt wo.heap.size 0 (oe x) := by rw [hwa]; exact range_new wo (oe x) 24
          obtain ⟨x0, x1, x2, x3, x4, x5, x6, x7⟩ := cells24n hrx
          have lk := (HM4.out.grew (hg.trans ga)).lookup key24 map39 (zero4 _) x false
          rw [HMr.out x hin, ov_eq] at lk
          simp only [Bool.false_eq_true, if_false, Option.map_some, Option.getD_some] at lk
          have gE := hg.trans ga
          clear hx hr hrx hin
          go_upto_region 13 with (fail)
          rw [← hwa]
          clear hwa c0 c1 c2 c3 c4 c5 c6 c7
          go_wp2_with fail
          go_roundw
          case rel => exact ⟨q + 1, by omega, by go_num, gE⟩
          case measure => simp [intOf]; omega
        · have gE := GM.out.trans hg
          go_wp2_with fail
          go_ret
          exact ⟨rfl, gE⟩
theorem mon_law (A : Option Addr) (n c : Nat) (l : List Ord) (p : ByteArray) (mo la kn : Int) (w : World) (h : Ords w A n c l) (m0 : -9223372036854775808 ≤ mo) (m1 : mo ≤ 9223372036854775807) (l0 : 0 ≤ la) (l1 : la ≤ 65535) : Calls Try.prog 9 #[.slice A n c, .string p, .int .i64 mo, .int .u16 la, .int .i64 kn] w fun e w' => e = .returned (.bool true) ∧ Grew w w' := by
  by_cases hs : n ≤ 403
  · by_cases hm : mo ≤ 1199
    · exact mon_main A n c l p mo la kn w h m0 m1 l0 l1 hs hm
    · exact mon_skip2 A n c l p mo la kn w h m0 m1 l0 l1 hs (by omega)
  · exact mon_skip A n c l p mo la kn w h m0 m1 l0 l1 h.1.le (decide_eq_false hs)
end Go.Proofs.Ytjpnodmcglcihaa
