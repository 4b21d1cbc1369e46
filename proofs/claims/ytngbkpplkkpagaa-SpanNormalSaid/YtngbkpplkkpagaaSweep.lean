/-
  span.sweep.
-/
import Derived.Test.YtngbkpplkkpagaaEdges
import Derived.Deep.DeepCutAuto
import Derived.IntWalk
namespace Go.Proofs.Ytngbkpplkkpagaa
open Go.RowKit Go.Proofs WageMem WageSpan

theorem ed_small {a b : List Sp} {E : List Ed} (hp : E.Perm (edges a b)) : ∀ e ∈ E, (-1 ≤ e.fi ∧ e.fi ≤ 1) ∧ (-1 ≤ e.se ∧ e.se ≤ 1) ∧ -1152921504606846976 ≤ e.off ∧ e.off ≤ 1152921504606846976 := by
  intro e he
  have hm := hp.mem_iff.1 he
  refine ⟨?_, ?_, edges_bound a b e hm⟩
  all_goals
    unfold edges at hm
    rcases List.mem_append.1 hm with h | h
    · obtain ⟨s, _, hs⟩ := List.mem_flatMap.1 h
      unfold edF at hs
      split at hs
      · rcases List.mem_cons.1 hs with rfl | hs
        · refine ⟨?_, ?_⟩ <;> simp
        · rcases List.mem_cons.1 hs with rfl | hs
          · refine ⟨?_, ?_⟩ <;> simp
          · simp at hs
      · simp at hs
    · obtain ⟨s, _, hs⟩ := List.mem_flatMap.1 h
      unfold edS at hs
      split at hs
      · rcases List.mem_cons.1 hs with rfl | hs
        · refine ⟨?_, ?_⟩ <;> simp
        · rcases List.mem_cons.1 hs with rfl | hs
          · refine ⟨?_, ?_⟩ <;> simp
          · simp at hs
      · simp at hs
/-- What the loop of sweep keeps. -/
structure SwInv (w : World) (bf : Bool → Bool → Bool) (E : List Ed) (k : Nat) (R : List Sp) (f s : Int) (op : Bool) (st : Int) (Al : Option Addr) (j cl : Nat) (W : World) : Prop where
  own : W.ownsRow w.heap.size 33 2 (.slice Al j cl) j (flat R)
  len : R.length = j
  rest : R ++ swp bf (E.drop k) f s op st = swp bf E 0 0 false 0
  in64 : In64 R
  grew : Grew w W
theorem in64_snoc {R : List Sp} (h : In64 R) {a b : Int} (ha : -1152921504606846976 ≤ a ∧ a ≤ 1152921504606846976) (hb : -1152921504606846976 ≤ b ∧ b ≤ 1152921504606846976) : In64 (R ++ [(a, b)]) := by
  intro s hs
  rcases List.mem_append.1 hs with hs | hs
  · exact h s hs
  · simp at hs; subst hs; exact ⟨⟨by show _ ≤ a; omega, by show a ≤ _; omega⟩, by show _ ≤ b; omega, by show b ≤ _; omega⟩
theorem swp_same {bf : Bool → Bool → Bool} {e : Ed} {E : List Ed} {f s : Int} {op : Bool} {st : Int} (h : sameNext e E = true) : swp bf (e :: E) f s op st = swp bf E (f + e.fi) (s + e.se) op st := by
  rw [swp, if_pos h]
theorem swp_on {bf : Bool → Bool → Bool} {e : Ed} {E : List Ed} {f s : Int} {op : Bool} {st : Int} (h : sameNext e E = false) (hi : bf (decide (0 < f + e.fi)) (decide (0 < s + e.se)) = op) : swp bf (e :: E) f s op st = swp bf E (f + e.fi) (s + e.se) op st := by
  rw [swp, h, hi]; simp
theorem swp_close {bf : Bool → Bool → Bool} {e : Ed} {E : List Ed} {f s : Int} {st : Int} (h : sameNext e E = false) (hi : bf (decide (0 < f + e.fi)) (decide (0 < s + e.se)) = false) : swp bf (e :: E) f s true st = (st, e.off) :: swp bf E (f + e.fi) (s + e.se) false e.off := by
  rw [swp, h, hi]; simp
theorem swp_open {bf : Bool → Bool → Bool} {e : Ed} {E : List Ed} {f s : Int} {st : Int} (h : sameNext e E = false) (hi : bf (decide (0 < f + e.fi)) (decide (0 < s + e.se)) = true) : swp bf (e :: E) f s false st = swp bf E (f + e.fi) (s + e.se) true e.off := by
  rw [swp, h, hi]; simp
theorem same_next {E : List Ed} {k : Nat} {e e2 : Ed} (h2 : E[k + 1]? = some e2) : sameNext e (E.drop (k + 1)) = (e2.off == e.off) := by
  obtain ⟨hl, rfl⟩ := List.getElem?_eq_some_iff.1 h2
  rw [List.drop_eq_getElem_cons hl]; rfl
theorem same_last {E : List Ed} {k : Nat} {e : Ed} (h : E.length ≤ k + 1) : sameNext e (E.drop (k + 1)) = false := by
  rw [List.drop_of_length_le h]; rfl
theorem drop_at {E : List Ed} {k : Nat} {e : Ed} (h : E[k]? = some e) : E.drop k = e :: E.drop (k + 1) := by
  obtain ⟨hl, rfl⟩ := List.getElem?_eq_some_iff.1 h
  exact List.drop_eq_getElem_cons hl

set_option maxRecDepth 100000 in
set_option maxHeartbeats 8000000 in
theorem sweep_any (gf : Nat) (bf : Bool → Bool → Bool) (h0 : bf false false = false) (eg : ∀ args w, (callFunc gf args).run Try.prog w = .ok (.enter gf args) w)
    (hgf : ∀ (x y t : Bool) (w : World), bf x y = t → Calls Try.prog gf #[.bool x, .bool y] w fun e w' => e = .returned (.bool t) ∧ w = w')
    (A B : Option Addr) (n m c e : Nat) (a b : List Sp) (w : World) (ha : Spans w A n c a) (hb : Spans w B m e b) (hn : n ≤ 2000) (hm : m ≤ 2000) :
    Calls Try.prog 32 #[.slice A n c, .slice B m e, .func (.func gf) #[] #[]] w (RetS (nf bf a b) w) := by
  obtain ⟨i0, hi, hz0, hz1, hz2⟩ := info_parts info33
  have HG := Lib.hid hgf
  have HA := Lib.hid ha
  have HB := Lib.hid hb
  clear hgf ha hb
  go_enter Try.func32, Try.ntmps32
  go_wp2_with fail
  refine (edges_any A B n m c e a b _ HA.out HB.out hn hm).mono ?_
  rintro e1 w1 ⟨Ae, ne, ce, E, rfl, p1, p2, p3, hne, g1⟩
  have HS := Lib.hid (ed_small p1)
  have HQ := Lib.hid (swp_eq h0 p1 p2)
  have HE := Lib.hid p3
  clear p1 p2 p3
  go_wp2_with fail
  go_loopw [8, 9, 10, 11, 12, 21] (fun v8 v9 v10 v11 v12 i wr => ∃ (k : Nat) (R : List Sp) (f s : Int) (op : Bool) (st : Int) (Al : Option Addr) (j cl : Nat), k ≤ ne ∧ j ≤ k ∧ (-k ≤ f ∧ f ≤ k) ∧ (-k ≤ s ∧ s ≤ k) ∧ (-1152921504606846976 ≤ st ∧ st ≤ 1152921504606846976) ∧
      v8 = .slice Al j cl ∧ v9 = .int .i64 f ∧ v10 = .int .i64 s ∧ v11 = .bool op ∧ v12 = .int .i64 st ∧ i = .int .i64 k ∧ Hid (SwInv w1 bf E k R f s op st Al j cl wr)) (fun _ _ _ _ _ i _ => ne - (intOf i).toNat)
  case atStart => exact ⟨0, [], 0, 0, false, 0, none, 0, 0, Nat.zero_le _, Nat.le_refl _, by omega, by omega, by omega, rfl, rfl, rfl, rfl, rfl, rfl, ⟨World.ownsRow_nil _ _ _ _, rfl, rfl, fun s hs => by simp at hs, Grew.refl _⟩⟩
  case round =>
    obtain ⟨k, R, f, s, op, st, Al, j, cl, hk, hj, hf, hsb, hst, rfl, rfl, rfl, rfl, rfl, rfl, INV⟩ := hrel
    by_cases hlt : k < ne
    · have hl : k < E.length := by rw [HE.out.1]; exact hlt
      obtain ⟨ed, hed⟩ : ∃ ed, E[k]? = some ed := ⟨_, List.getElem?_eq_getElem hl⟩
      obtain ⟨g, rfl, hc⟩ := (HE.out.grew INV.out.grew).2 (by omega)
      obtain ⟨c1, c2, c3⟩ := hc k ed hed
      have hsm := HS.out ed (List.mem_of_getElem? hed)
      have hdr := drop_at hed
      have HD := Lib.hid hdr
      have hrest := INV.out.rest
      rw [hdr] at hrest
      have HR := Lib.hid hrest
      obtain ⟨eo, ef, es⟩ := ed
      simp only at c1 c2 c3 hsm
      obtain ⟨u1, u2, u3, u4⟩ := hsm
      have i0' : (0 : Int) ≤ (k : Int) := by omega
      have i1' : (k : Int) < (ne : Int) := by omega
      obtain ⟨wa, hwa⟩ : ∃ x, x = wr.alloc (.cells #[.int .i64 eo, .int .i64 ef, .int .i64 es] 51) := ⟨_, rfl⟩
      have ga : Grew wr wa := by rw [hwa]; exact (Grew.refl wr).alloc _
      have x0 : wa.cell? ⟨wr.heap.size, 0, none⟩ = some (.int .i64 eo) := by rw [hwa]; simp
      have x1 : wa.cell? ⟨wr.heap.size, 1, none⟩ = some (.int .i64 ef) := by rw [hwa]; simp
      have x2 : wa.cell? ⟨wr.heap.size, 2, none⟩ = some (.int .i64 es) := by rw [hwa]; simp
      have w9 : IntKind.i64.wrap ((k : Int) + 1) = (k : Int) + 1 := IntWalk.i64_in _ (by omega)
      have w8 : ((k : Int) + 1).toNat = k + 1 := by omega
      have w7 : (0 : Int) ≤ (k : Int) + 1 := by omega
      obtain ⟨sn, hsn⟩ : ∃ sn, sameNext ⟨eo, ef, es⟩ (E.drop (k + 1)) = sn := ⟨_, rfl⟩
      have HSN := Lib.hid hsn
      have hcase : (decide ((k : Int) + 1 < ne) = false ∧ sn = false) ∨ (decide ((k : Int) + 1 < ne) = true ∧ (k : Int) + 1 < (ne : Int) ∧ ∃ eo2, wa.cell? ⟨g, (k + 1) * 3, none⟩ = some (.int .i64 eo2) ∧ (eo2 == eo) = sn) := by
        by_cases q : k + 1 < ne
        · obtain ⟨e2, he2⟩ : ∃ e2, E[k + 1]? = some e2 := ⟨_, List.getElem?_eq_getElem (by rw [HE.out.1]; exact q)⟩
          refine .inr ⟨decide_eq_true (by omega), by omega, e2.off, ga.cell (hc (k + 1) e2 he2).1, ?_⟩
          rw [← hsn, same_next he2]
        · exact .inl ⟨decide_eq_false (by omega), by rw [← hsn]; exact same_last (by rw [HE.out.1]; omega)⟩
      clear hed hc hdr hrest hsn hl
      have GA := Lib.hid ga
      go_upto_region 11 with (fail)
      rw [← hwa]
      clear hwa ga
      go_cut [49] (fun s49 wx => s49 = .bool sn ∧ Hid (Grew wa wx))
      case first =>
        rcases hcase with ⟨t1, rfl⟩ | ⟨t1, t2, eo2, t3, t4⟩
        · go_quiet (fail)
          go_wp2_with fail
          go_meet
          exact ⟨rfl, (Grew.refl wa).drewN _⟩
        · go_quiet (fail)
          go_wp2_with fail
          go_meet
          exact ⟨rfl, (Grew.refl wa).drewN _⟩
      case rest =>
        obtain ⟨rfl, GC⟩ := hcut
        obtain ⟨wb, rfl⟩ : ∃ wb : World, wb = wc := ⟨_, rfl⟩
        replace x0 := GC.out.cell x0
        have gt := GA.out.trans GC.out
        have g0b := INV.out.grew.trans gt
        have OB := Lib.hid (own_grew INV.out.own gt)
        clear hcase x1 x2 w9 w8 w7 GC GA
        cases sn with
        | true =>
          have INV2 : Hid (SwInv w1 bf E (k + 1) R (f + ef) (s + es) op st Al j cl wb) := ⟨OB.out, INV.out.len, by rw [← HR.out, swp_same HSN.out], INV.out.in64, g0b⟩
          clear INV OB gt g0b c1 c2 c3 x0
          go_wp2_with fail
          go_roundw
          case rel => exact ⟨k + 1, R, f + ef, s + es, op, st, Al, j, cl, by omega, by omega, by omega, by omega, by omega, rfl, rfl, rfl, rfl, rfl, by go_num, INV2⟩
          case measure => simp [intOf]; omega
        | false =>
          obtain ⟨ins, hins⟩ : ∃ ins, bf (decide (0 < f + ef)) (decide (0 < s + es)) = ins := ⟨_, rfl⟩
          have HI := Lib.hid hins
          clear hins c1 c2 c3
          go_wp2_with fail
          refine (HG.out _ _ _ _ HI.out).mono ?_
          rintro e2 _ ⟨rfl, rfl⟩
          cases op with
          | true =>
            cases ins with
            | true =>
              have INV2 : Hid (SwInv w1 bf E (k + 1) R (f + ef) (s + es) true st Al j cl wb) := ⟨OB.out, INV.out.len, by rw [← HR.out, swp_on HSN.out HI.out], INV.out.in64, g0b⟩
              clear INV OB gt g0b x0
              go_wp2_with fail
              go_roundw
              case rel => exact ⟨k + 1, R, f + ef, s + es, true, st, Al, j, cl, by omega, by omega, by omega, by omega, by omega, rfl, rfl, rfl, rfl, rfl, by go_num, INV2⟩
              case measure => simp [intOf]; omega
            | false =>
              have hle := g0b.le
              have hown : some wr.heap.size ≠ (Value.slice Al j cl).ownBlock := fun h => by have := (INV.out.own.lt _ h.symm).2; omega
              have HOWN := Lib.hid hown
              clear hown
              have BI : Hid (Sl (wb.alloc (.cells #[.int .i64 st, .int .i64 eo] 33)) 2 (some ⟨wb.heap.size, 0, none⟩) 1 1 (flat [(st, eo)])) := built 2 1 _ _ rfl rfl (by decide)
              go_wp2_with (at_builtin; refine wpList_append_sl _ rfl (.tmp 60) (.tmp 65) 22 rfl w1.heap.size 33 i0 (.agg #[.int .i64 0, .int .i64 0]) 2 16 Try.underlying22 hi hz0 hz1 hz2 rfl (by decide) (.slice Al j cl) j _ rfl (OB.out.alloc _) (some ⟨wb.heap.size, 0, none⟩) 1 1 _ rfl BI.out (flat_one _) (by unfold maxLen; omega) (by omega) (by simp; omega) ?_; intro v3 w3 own3 hg3 hat3; obtain ⟨A3, c3, rfl⟩ := own_form own3; replace x0 := hg3.cell (((Grew.refl wb).alloc (.cells #[.int .i64 st, .int .i64 eo] 33)).cell x0) HOWN.out)
              have INV2 : Hid (SwInv w1 bf E (k + 1) (R ++ [(st, eo)]) (f + ef) (s + es) false eo A3 (j + 1) c3 w3) := by
                refine ⟨by rw [flat_append]; exact own3, by rw [List.length_append, INV.out.len]; rfl, ?_, in64_snoc INV.out.in64 hst ⟨u3, u4⟩, (g0b.alloc _).grown hg3 (fun q hq => (OB.out.lt q hq).1)⟩
                rw [← HR.out, swp_close HSN.out HI.out, List.append_assoc]; rfl
              clear INV OB gt g0b own3 hg3 hat3 BI HOWN
              go_roundw
              case rel => exact ⟨k + 1, _, f + ef, s + es, false, eo, A3, j + 1, c3, by omega, by omega, by omega, by omega, by omega, rfl, rfl, rfl, rfl, rfl, by go_num, INV2⟩
              case measure => simp [intOf]; omega
          | false =>
            cases ins with
            | false =>
              have INV2 : Hid (SwInv w1 bf E (k + 1) R (f + ef) (s + es) false st Al j cl wb) := ⟨OB.out, INV.out.len, by rw [← HR.out, swp_on HSN.out HI.out], INV.out.in64, g0b⟩
              clear INV OB gt g0b x0
              go_wp2_with fail
              go_roundw
              case rel => exact ⟨k + 1, R, f + ef, s + es, false, st, Al, j, cl, by omega, by omega, by omega, by omega, by omega, rfl, rfl, rfl, rfl, rfl, by go_num, INV2⟩
              case measure => simp [intOf]; omega
            | true =>
              have INV2 : Hid (SwInv w1 bf E (k + 1) R (f + ef) (s + es) true eo Al j cl wb) := ⟨OB.out, INV.out.len, by rw [← HR.out, swp_open HSN.out HI.out], INV.out.in64, g0b⟩
              clear INV OB gt g0b
              go_wp2_with fail
              go_roundw
              case rel => exact ⟨k + 1, R, f + ef, s + es, true, eo, Al, j, cl, by omega, by omega, by omega, by omega, by omega, rfl, rfl, rfl, rfl, rfl, by go_num, INV2⟩
              case measure => simp [intOf]; omega
    · obtain rfl : k = ne := by omega
      have HF : Hid (R = nf bf a b) := by
        have := INV.out.rest
        rw [List.drop_of_length_le (by rw [HE.out.1]; omega), show swp bf [] f s op st = [] from rfl, List.append_nil, HQ.out] at this
        exact this
      go_wp2_with fail
      go_ret
      rw [← HF.out]
      exact ⟨Al, j, cl, rfl, INV.out.len, INV.out.in64, own_base INV.out.own g1.le, g1.trans INV.out.grew⟩
end Go.Proofs.Ytngbkpplkkpagaa
