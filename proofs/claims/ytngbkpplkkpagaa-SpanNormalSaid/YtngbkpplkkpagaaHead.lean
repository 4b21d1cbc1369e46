/-
  The law's functions short and head.
-/
import Derived.Test.YtngbkpplkkpagaaList
namespace Go.Proofs.Ytngbkpplkkpagaa
open Go.RowKit Go.Proofs WageMem WageSpan

theorem builtI {w : World} {t : TypeId} (zs : List Int) (cs : Array Value) (h : cs = (zs.map iv).toArray) (n : Nat) (hn : zs.length = n) (hm : n ≤ 1000) : Ints (w.alloc (.cells cs t)) (some ⟨w.heap.size, 0, none⟩) n n zs :=
  ⟨hn, built 1 n cs (zs.map iv) h (by rw [List.length_map, hn]; omega) hm⟩
theorem list_val {A : Option Addr} {n c : Nat} {zs : List Int} {w : World} {r : List Sp} (h : Ints w A n c zs) (hn : n ≤ 1000) (hz : (zs.all fun z => decide (-9223372036854775808 ≤ z ∧ z ≤ 9223372036854775807)) = true) (hr : pr zs = r) :
    Calls Try.prog 31 #[.slice A n c] w (RetR r w) := by
  subst hr
  exact list_any A n c zs w h hn fun z hm => of_decide_eq_true (List.all_eq_true.1 hz z hm)

/-- Headers of slices. -/
def hv (h : Option Addr × Nat × Nat) : Value := .slice h.1 h.2.1 h.2.2
def shortB (hs : List (Option Addr × Nat × Nat)) : Bool := hs.all fun h => decide (h.2.1 ≤ 60)
theorem short_take {hs : List (Option Addr × Nat × Nat)} {k : Nat} {h : Option Addr × Nat × Nat} (hk : hs[k]? = some h) : shortB (hs.take (k + 1)) = (shortB (hs.take k) && decide (h.2.1 ≤ 60)) := by
  unfold shortB; rw [List.take_add_one, hk, List.all_append]; simp
set_option maxHeartbeats 1000000 in
theorem short_any (A : Option Addr) (n c : Nat) (hs : List (Option Addr × Nat × Nat)) (w : World) (h : Sl w 1 A n c (hs.map hv)) (hl : hs.length = n) (hn : n ≤ 1000) :
    Calls Try.prog 11 #[.slice A n c] w fun e w' => e = .returned (.bool (shortB hs)) ∧ Grew w w' := by
  have HH := Lib.hid h
  have HL := Lib.hid hl
  clear h hl
  go_enter Try.func11, Try.ntmps11
  go_wp2_with fail
  go_loopw [7] (fun i wr => ∃ k : Nat, k ≤ n ∧ i = .int .i64 k ∧ Hid (shortB (hs.take k) = true) ∧ Grew w wr) (fun i _ => n - (intOf i).toNat)
  case atStart => exact ⟨0, Nat.zero_le _, rfl, rfl, Grew.refl _⟩
  case round =>
    obtain ⟨k, hk, rfl, HE, hg⟩ := hrel
    by_cases hlt : k < n
    · obtain ⟨x, hx⟩ : ∃ x, hs[k]? = some x := ⟨_, List.getElem?_eq_getElem (by rw [HL.out]; exact hlt)⟩
      obtain ⟨b, o, rfl, hc⟩ := (HH.out.grew hg).2.2.2.1 (by intro e; have h1 := congrArg List.length e; rw [List.length_map, HL.out] at h1; simp at h1; omega)
      obtain ⟨Ax, nx, cx⟩ := x
      have c1 : wr.cell? ⟨b, o + k, none⟩ = some (.slice Ax nx cx) := hc k _ (by rw [List.getElem?_map, hx]; rfl)
      have ht := short_take hx
      rw [HE.out, Bool.true_and] at ht
      have HT := Lib.hid ht
      have HX := Lib.hid hx
      have i0 : (0 : Int) ≤ (k : Int) := by omega
      have i1 : (k : Int) < (n : Int) := by omega
      clear hc hx ht
      by_cases h60 : nx ≤ 60
      · have t : decide (60 < (nx : Int)) = false := decide_eq_false (by omega)
        have HT2 : Hid (shortB (hs.take (k + 1)) = true) := by unfold Hid; rw [HT.out]; exact decide_eq_true h60
        go_wp2_with fail
        go_roundw
        case rel => exact ⟨k + 1, by omega, by go_num, HT2, hg⟩
        case measure => simp [intOf]; omega
      · have t : decide (60 < (nx : Int)) = true := decide_eq_true (by omega)
        have HF : Hid (shortB hs = false) := by
          unfold Hid shortB
          rw [List.all_eq_false]
          exact ⟨(Ax, nx, cx), List.mem_of_getElem? HX.out, by simpa using h60⟩
        go_wp2_with fail
        go_ret
        exact ⟨by rw [HF.out]; rfl, hg⟩
    · have HF : Hid (shortB hs = true) := by
        have := HE.out
        rw [List.take_of_length_le (by rw [HL.out]; omega)] at this
        exact this
      go_wp2_with fail
      go_ret
      exact ⟨by rw [HF.out]; rfl, hg⟩
theorem short_val {w : World} {cs : Array Value} {t : TypeId} {n : Nat} {b : Bool} (hs : List (Option Addr × Nat × Nat)) (hcs : cs = (hs.map hv).toArray) (hl : hs.length = n) (hn : n ≤ 1000) (hb : shortB hs = b) :
    Calls Try.prog 11 #[.slice (some ⟨w.heap.size, 0, none⟩) n n] (w.alloc (.cells cs t)) fun e w' => e = .returned (.bool b) ∧ Grew w w' := by
  subst hb
  exact (short_any _ n n hs _ (built 1 n cs (hs.map hv) hcs (by rw [List.length_map, hl]; omega) hn) hl hn).mono fun _ _ ⟨e, g⟩ => ⟨e, ((Grew.refl w).alloc _).trans g⟩

theorem h_n1 : nrm [(5, 8), (1, 3), (3, 4), (9, 9), (7, 2)] = [(1, 4), (5, 8)] := by decide +kernel
theorem h_n2 : meet [(1, 10)] [(0, 2), (5, 7)] = [(1, 2), (5, 7)] := by decide +kernel
theorem h_n3 : minus [(1, 10)] [(0, 2), (5, 7)] = [(2, 5), (7, 10)] := by decide +kernel
theorem h_n4 : uni [(1, 10)] [(0, 2), (5, 7)] = [(0, 10)] := by decide +kernel
theorem h_n5 : sizeS (nrm [(1, 5), (3, 8)]) = 7 := by decide +kernel
theorem h_n6 : hasB [(0, 2), (5, 7)] 6 = true := by decide +kernel
theorem h_n7 : hasB [(0, 2), (5, 7)] 7 = false := by decide +kernel
theorem h_n8 : decide (nrm [(0, 2), (5, 7)] = [(0, 2), (5, 7)]) = true := by decide +kernel
theorem h_n9 : decide (nrm [(1, 3), (3, 4)] = [(1, 3), (3, 4)]) = false := by decide +kernel
set_option maxRecDepth 100000 in
set_option maxHeartbeats 16000000 in
theorem head_true (w : World) : Calls Try.prog 10 #[] w fun e w' => e = .returned (.bool true) ∧ Grew w w' := by
  have gg : Grew w w := Grew.refl w
  go_enter Try.func10, Try.ntmps10
  go_wp2_with fail
  refine (list_val (builtI [1, 10] _ rfl 2 rfl (by decide)) (by decide) rfl rfl).mono ?_
  rintro e v0 ⟨Aa, na, ca, rfl, hh, g⟩
  have ga : Grew w v0 := ((Grew.refl w).alloc _).trans g
  clear g
  have Ha : Hid (Spans v0 Aa na ca [(1, 10)]) := hh
  clear hh
  have ba : na ≤ 1000 := by rw [← Ha.out.1]; decide
  replace gg := gg.trans ga
  clear ga
  go_wp2_with fail
  refine (list_val (builtI [0, 2, 5, 7] _ rfl 4 rfl (by decide)) (by decide) rfl rfl).mono ?_
  rintro e v1 ⟨Ab, nb, cb, rfl, hh, g⟩
  have ga : Grew v0 v1 := ((Grew.refl v0).alloc _).trans g
  clear g
  have Hb : Hid (Spans v1 Ab nb cb [(0, 2), (5, 7)]) := hh
  clear hh
  have bb : nb ≤ 1000 := by rw [← Hb.out.1]; decide
  replace Ha := Lib.hid (Ha.out.grew ga)
  replace gg := gg.trans ga
  clear ga
  go_wp2_with fail
  refine (list_val (builtI [5, 8, 1, 3, 3, 4, 9, 9, 7, 2] _ rfl 10 rfl (by decide)) (by decide) rfl rfl).mono ?_
  rintro e v2 ⟨Ax, nx, cx, rfl, hh, g⟩
  have ga : Grew v1 v2 := ((Grew.refl v1).alloc _).trans g
  clear g
  have Hx : Hid (Spans v2 Ax nx cx [(5, 8), (1, 3), (3, 4), (9, 9), (7, 2)]) := hh
  clear hh
  have bx : nx ≤ 1000 := by rw [← Hx.out.1]; decide
  replace Ha := Lib.hid (Ha.out.grew ga)
  replace Hb := Lib.hid (Hb.out.grew ga)
  replace gg := gg.trans ga
  clear ga
  go_wp2_with fail
  refine (normal_val Hx.out (by omega) h_n1).mono ?_
  rintro e v3 ⟨An, nn, cn, rfl, hh, g⟩
  have Hn : Hid (Spans v3 An nn cn [(1, 4), (5, 8)]) := hh
  clear hh
  have bn : nn ≤ 1000 := by rw [← Hn.out.1]; decide
  replace Ha := Lib.hid (Ha.out.grew g)
  replace Hb := Lib.hid (Hb.out.grew g)
  replace Hx := Lib.hid (Hx.out.grew g)
  replace gg := gg.trans g
  clear g
  go_wp2_with fail
  refine (list_val (builtI [1, 4, 5, 8] _ rfl 4 rfl (by decide)) (by decide) rfl rfl).mono ?_
  rintro e v4 ⟨Ap, np, cp, rfl, hh, g⟩
  have ga : Grew v3 v4 := ((Grew.refl v3).alloc _).trans g
  clear g
  have Hp : Hid (Spans v4 Ap np cp [(1, 4), (5, 8)]) := hh
  clear hh
  have bp : np ≤ 1000 := by rw [← Hp.out.1]; decide
  replace Ha := Lib.hid (Ha.out.grew ga)
  replace Hb := Lib.hid (Hb.out.grew ga)
  replace Hx := Lib.hid (Hx.out.grew ga)
  replace Hn := Lib.hid (Hn.out.grew ga)
  replace gg := gg.trans ga
  clear ga
  go_wp2_with fail
  refine (same_val Hn.out Hp.out (decide_eq_true rfl)).mono ?_
  rintro e v5 ⟨rfl, g⟩
  replace Ha := Lib.hid (Ha.out.grew g)
  replace Hb := Lib.hid (Hb.out.grew g)
  replace Hx := Lib.hid (Hx.out.grew g)
  replace Hn := Lib.hid (Hn.out.grew g)
  replace Hp := Lib.hid (Hp.out.grew g)
  replace gg := gg.trans g
  clear g
  go_wp2_with fail
  refine (meet_val Ha.out Hb.out (by omega) (by omega) h_n2).mono ?_
  rintro e v6 ⟨Am, nm, cm, rfl, hh, g⟩
  have Hm : Hid (Spans v6 Am nm cm [(1, 2), (5, 7)]) := hh
  clear hh
  have bm : nm ≤ 1000 := by rw [← Hm.out.1]; decide
  replace Ha := Lib.hid (Ha.out.grew g)
  replace Hb := Lib.hid (Hb.out.grew g)
  replace Hx := Lib.hid (Hx.out.grew g)
  replace Hn := Lib.hid (Hn.out.grew g)
  replace Hp := Lib.hid (Hp.out.grew g)
  replace gg := gg.trans g
  clear g
  go_wp2_with fail
  refine (list_val (builtI [1, 2, 5, 7] _ rfl 4 rfl (by decide)) (by decide) rfl rfl).mono ?_
  rintro e v7 ⟨Aq, nq, cq, rfl, hh, g⟩
  have ga : Grew v6 v7 := ((Grew.refl v6).alloc _).trans g
  clear g
  have Hq : Hid (Spans v7 Aq nq cq [(1, 2), (5, 7)]) := hh
  clear hh
  have bq : nq ≤ 1000 := by rw [← Hq.out.1]; decide
  replace Ha := Lib.hid (Ha.out.grew ga)
  replace Hb := Lib.hid (Hb.out.grew ga)
  replace Hx := Lib.hid (Hx.out.grew ga)
  replace Hn := Lib.hid (Hn.out.grew ga)
  replace Hp := Lib.hid (Hp.out.grew ga)
  replace Hm := Lib.hid (Hm.out.grew ga)
  replace gg := gg.trans ga
  clear ga
  go_wp2_with fail
  refine (same_val Hm.out Hq.out (decide_eq_true rfl)).mono ?_
  rintro e v8 ⟨rfl, g⟩
  replace Ha := Lib.hid (Ha.out.grew g)
  replace Hb := Lib.hid (Hb.out.grew g)
  replace Hx := Lib.hid (Hx.out.grew g)
  replace Hn := Lib.hid (Hn.out.grew g)
  replace Hp := Lib.hid (Hp.out.grew g)
  replace Hm := Lib.hid (Hm.out.grew g)
  replace Hq := Lib.hid (Hq.out.grew g)
  replace gg := gg.trans g
  clear g
  go_wp2_with fail
  refine (minus_val Ha.out Hb.out (by omega) (by omega) h_n3).mono ?_
  rintro e v9 ⟨Ai, ni, ci, rfl, hh, g⟩
  have Hi : Hid (Spans v9 Ai ni ci [(2, 5), (7, 10)]) := hh
  clear hh
  have bi : ni ≤ 1000 := by rw [← Hi.out.1]; decide
  replace Ha := Lib.hid (Ha.out.grew g)
  replace Hb := Lib.hid (Hb.out.grew g)
  replace Hx := Lib.hid (Hx.out.grew g)
  replace Hn := Lib.hid (Hn.out.grew g)
  replace Hp := Lib.hid (Hp.out.grew g)
  replace Hm := Lib.hid (Hm.out.grew g)
  replace Hq := Lib.hid (Hq.out.grew g)
  replace gg := gg.trans g
  clear g
  go_wp2_with fail
  refine (list_val (builtI [2, 5, 7, 10] _ rfl 4 rfl (by decide)) (by decide) rfl rfl).mono ?_
  rintro e v10 ⟨Ar, nr, cr, rfl, hh, g⟩
  have ga : Grew v9 v10 := ((Grew.refl v9).alloc _).trans g
  clear g
  have Hr : Hid (Spans v10 Ar nr cr [(2, 5), (7, 10)]) := hh
  clear hh
  have br : nr ≤ 1000 := by rw [← Hr.out.1]; decide
  replace Ha := Lib.hid (Ha.out.grew ga)
  replace Hb := Lib.hid (Hb.out.grew ga)
  replace Hx := Lib.hid (Hx.out.grew ga)
  replace Hn := Lib.hid (Hn.out.grew ga)
  replace Hp := Lib.hid (Hp.out.grew ga)
  replace Hm := Lib.hid (Hm.out.grew ga)
  replace Hq := Lib.hid (Hq.out.grew ga)
  replace Hi := Lib.hid (Hi.out.grew ga)
  replace gg := gg.trans ga
  clear ga
  go_wp2_with fail
  refine (same_val Hi.out Hr.out (decide_eq_true rfl)).mono ?_
  rintro e v11 ⟨rfl, g⟩
  replace Ha := Lib.hid (Ha.out.grew g)
  replace Hb := Lib.hid (Hb.out.grew g)
  replace Hx := Lib.hid (Hx.out.grew g)
  replace Hn := Lib.hid (Hn.out.grew g)
  replace Hp := Lib.hid (Hp.out.grew g)
  replace Hm := Lib.hid (Hm.out.grew g)
  replace Hq := Lib.hid (Hq.out.grew g)
  replace Hi := Lib.hid (Hi.out.grew g)
  replace Hr := Lib.hid (Hr.out.grew g)
  replace gg := gg.trans g
  clear g
  go_wp2_with fail
  refine (union_val Ha.out Hb.out (by omega) (by omega) h_n4).mono ?_
  rintro e v12 ⟨Ao, no, co, rfl, hh, g⟩
  have Ho : Hid (Spans v12 Ao no co [(0, 10)]) := hh
  clear hh
  have bo : no ≤ 1000 := by rw [← Ho.out.1]; decide
  replace Ha := Lib.hid (Ha.out.grew g)
  replace Hb := Lib.hid (Hb.out.grew g)
  replace Hx := Lib.hid (Hx.out.grew g)
  replace Hn := Lib.hid (Hn.out.grew g)
  replace Hp := Lib.hid (Hp.out.grew g)
  replace Hm := Lib.hid (Hm.out.grew g)
  replace Hq := Lib.hid (Hq.out.grew g)
  replace Hi := Lib.hid (Hi.out.grew g)
  replace Hr := Lib.hid (Hr.out.grew g)
  replace gg := gg.trans g
  clear g
  go_wp2_with fail
  refine (list_val (builtI [0, 10] _ rfl 2 rfl (by decide)) (by decide) rfl rfl).mono ?_
  rintro e v13 ⟨Au, nu, cu, rfl, hh, g⟩
  have ga : Grew v12 v13 := ((Grew.refl v12).alloc _).trans g
  clear g
  have Hu : Hid (Spans v13 Au nu cu [(0, 10)]) := hh
  clear hh
  have bu : nu ≤ 1000 := by rw [← Hu.out.1]; decide
  replace Ha := Lib.hid (Ha.out.grew ga)
  replace Hb := Lib.hid (Hb.out.grew ga)
  replace Hx := Lib.hid (Hx.out.grew ga)
  replace Hn := Lib.hid (Hn.out.grew ga)
  replace Hp := Lib.hid (Hp.out.grew ga)
  replace Hm := Lib.hid (Hm.out.grew ga)
  replace Hq := Lib.hid (Hq.out.grew ga)
  replace Hi := Lib.hid (Hi.out.grew ga)
  replace Hr := Lib.hid (Hr.out.grew ga)
  replace Ho := Lib.hid (Ho.out.grew ga)
  replace gg := gg.trans ga
  clear ga
  go_wp2_with fail
  refine (same_val Ho.out Hu.out (decide_eq_true rfl)).mono ?_
  rintro e v14 ⟨rfl, g⟩
  replace Ha := Lib.hid (Ha.out.grew g)
  replace Hb := Lib.hid (Hb.out.grew g)
  replace Hx := Lib.hid (Hx.out.grew g)
  replace Hn := Lib.hid (Hn.out.grew g)
  replace Hp := Lib.hid (Hp.out.grew g)
  replace Hm := Lib.hid (Hm.out.grew g)
  replace Hq := Lib.hid (Hq.out.grew g)
  replace Hi := Lib.hid (Hi.out.grew g)
  replace Hr := Lib.hid (Hr.out.grew g)
  replace Ho := Lib.hid (Ho.out.grew g)
  replace Hu := Lib.hid (Hu.out.grew g)
  replace gg := gg.trans g
  clear g
  go_wp2_with fail
  refine (list_val (builtI [1, 5, 3, 8] _ rfl 4 rfl (by decide)) (by decide) rfl rfl).mono ?_
  rintro e v15 ⟨As, ns, cs, rfl, hh, g⟩
  have ga : Grew v14 v15 := ((Grew.refl v14).alloc _).trans g
  clear g
  have Hs : Hid (Spans v15 As ns cs [(1, 5), (3, 8)]) := hh
  clear hh
  have bs : ns ≤ 1000 := by rw [← Hs.out.1]; decide
  replace Ha := Lib.hid (Ha.out.grew ga)
  replace Hb := Lib.hid (Hb.out.grew ga)
  replace Hx := Lib.hid (Hx.out.grew ga)
  replace Hn := Lib.hid (Hn.out.grew ga)
  replace Hp := Lib.hid (Hp.out.grew ga)
  replace Hm := Lib.hid (Hm.out.grew ga)
  replace Hq := Lib.hid (Hq.out.grew ga)
  replace Hi := Lib.hid (Hi.out.grew ga)
  replace Hr := Lib.hid (Hr.out.grew ga)
  replace Ho := Lib.hid (Ho.out.grew ga)
  replace Hu := Lib.hid (Hu.out.grew ga)
  replace gg := gg.trans ga
  clear ga
  go_wp2_with fail
  refine (size_val Hs.out (by omega) h_n5).mono ?_
  rintro e v16 ⟨rfl, g⟩
  replace Ha := Lib.hid (Ha.out.grew g)
  replace Hb := Lib.hid (Hb.out.grew g)
  replace Hx := Lib.hid (Hx.out.grew g)
  replace Hn := Lib.hid (Hn.out.grew g)
  replace Hp := Lib.hid (Hp.out.grew g)
  replace Hm := Lib.hid (Hm.out.grew g)
  replace Hq := Lib.hid (Hq.out.grew g)
  replace Hi := Lib.hid (Hi.out.grew g)
  replace Hr := Lib.hid (Hr.out.grew g)
  replace Ho := Lib.hid (Ho.out.grew g)
  replace Hu := Lib.hid (Hu.out.grew g)
  replace Hs := Lib.hid (Hs.out.grew g)
  replace gg := gg.trans g
  clear g
  go_wp2_with fail
  refine (has_val Hb.out h_n6).mono ?_
  rintro e v17 ⟨rfl, g⟩
  replace Ha := Lib.hid (Ha.out.grew g)
  replace Hb := Lib.hid (Hb.out.grew g)
  replace Hx := Lib.hid (Hx.out.grew g)
  replace Hn := Lib.hid (Hn.out.grew g)
  replace Hp := Lib.hid (Hp.out.grew g)
  replace Hm := Lib.hid (Hm.out.grew g)
  replace Hq := Lib.hid (Hq.out.grew g)
  replace Hi := Lib.hid (Hi.out.grew g)
  replace Hr := Lib.hid (Hr.out.grew g)
  replace Ho := Lib.hid (Ho.out.grew g)
  replace Hu := Lib.hid (Hu.out.grew g)
  replace Hs := Lib.hid (Hs.out.grew g)
  replace gg := gg.trans g
  clear g
  go_wp2_with fail
  refine (has_val Hb.out h_n7).mono ?_
  rintro e v18 ⟨rfl, g⟩
  replace Ha := Lib.hid (Ha.out.grew g)
  replace Hb := Lib.hid (Hb.out.grew g)
  replace Hx := Lib.hid (Hx.out.grew g)
  replace Hn := Lib.hid (Hn.out.grew g)
  replace Hp := Lib.hid (Hp.out.grew g)
  replace Hm := Lib.hid (Hm.out.grew g)
  replace Hq := Lib.hid (Hq.out.grew g)
  replace Hi := Lib.hid (Hi.out.grew g)
  replace Hr := Lib.hid (Hr.out.grew g)
  replace Ho := Lib.hid (Ho.out.grew g)
  replace Hu := Lib.hid (Hu.out.grew g)
  replace Hs := Lib.hid (Hs.out.grew g)
  replace gg := gg.trans g
  clear g
  go_wp2_with fail
  refine (valid_val Hb.out (by omega) h_n8).mono ?_
  rintro e v19 ⟨rfl, g⟩
  replace Ha := Lib.hid (Ha.out.grew g)
  replace Hb := Lib.hid (Hb.out.grew g)
  replace Hx := Lib.hid (Hx.out.grew g)
  replace Hn := Lib.hid (Hn.out.grew g)
  replace Hp := Lib.hid (Hp.out.grew g)
  replace Hm := Lib.hid (Hm.out.grew g)
  replace Hq := Lib.hid (Hq.out.grew g)
  replace Hi := Lib.hid (Hi.out.grew g)
  replace Hr := Lib.hid (Hr.out.grew g)
  replace Ho := Lib.hid (Ho.out.grew g)
  replace Hu := Lib.hid (Hu.out.grew g)
  replace Hs := Lib.hid (Hs.out.grew g)
  replace gg := gg.trans g
  clear g
  go_wp2_with fail
  refine (list_val (builtI [1, 3, 3, 4] _ rfl 4 rfl (by decide)) (by decide) rfl rfl).mono ?_
  rintro e v20 ⟨At, nt, ct, rfl, hh, g⟩
  have ga : Grew v19 v20 := ((Grew.refl v19).alloc _).trans g
  clear g
  have Ht : Hid (Spans v20 At nt ct [(1, 3), (3, 4)]) := hh
  clear hh
  have bt : nt ≤ 1000 := by rw [← Ht.out.1]; decide
  replace Ha := Lib.hid (Ha.out.grew ga)
  replace Hb := Lib.hid (Hb.out.grew ga)
  replace Hx := Lib.hid (Hx.out.grew ga)
  replace Hn := Lib.hid (Hn.out.grew ga)
  replace Hp := Lib.hid (Hp.out.grew ga)
  replace Hm := Lib.hid (Hm.out.grew ga)
  replace Hq := Lib.hid (Hq.out.grew ga)
  replace Hi := Lib.hid (Hi.out.grew ga)
  replace Hr := Lib.hid (Hr.out.grew ga)
  replace Ho := Lib.hid (Ho.out.grew ga)
  replace Hu := Lib.hid (Hu.out.grew ga)
  replace Hs := Lib.hid (Hs.out.grew ga)
  replace gg := gg.trans ga
  clear ga
  go_wp2_with fail
  refine (valid_val Ht.out (by omega) h_n9).mono ?_
  rintro e v21 ⟨rfl, g⟩
  replace Ha := Lib.hid (Ha.out.grew g)
  replace Hb := Lib.hid (Hb.out.grew g)
  replace Hx := Lib.hid (Hx.out.grew g)
  replace Hn := Lib.hid (Hn.out.grew g)
  replace Hp := Lib.hid (Hp.out.grew g)
  replace Hm := Lib.hid (Hm.out.grew g)
  replace Hq := Lib.hid (Hq.out.grew g)
  replace Hi := Lib.hid (Hi.out.grew g)
  replace Hr := Lib.hid (Hr.out.grew g)
  replace Ho := Lib.hid (Ho.out.grew g)
  replace Hu := Lib.hid (Hu.out.grew g)
  replace Hs := Lib.hid (Hs.out.grew g)
  replace Ht := Lib.hid (Ht.out.grew g)
  replace gg := gg.trans g
  clear g
  go_wp2_with fail
  go_ret
  exact ⟨rfl, gg⟩

end Go.Proofs.Ytngbkpplkkpagaa
