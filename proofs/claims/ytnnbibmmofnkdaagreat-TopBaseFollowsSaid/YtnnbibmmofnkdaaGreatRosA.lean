/-
 roster.Valid, isRoster.
-/
import Derived.Test.YtnnbibmmofnkdaaGreatPlnA
import Derived.Test.YtnnbibmmofnkdaaGreatSpB
import Derived.Test.YtnnbibmmofnkdaaGreatKit
namespace Go.Proofs.YtnnbibmmofnkdaaGreat
open Go.RowKit Go.Proofs WageMem WageReg WageRec WageSpan WageTop
set_option maxRecDepth 100000 in
set_option maxHeartbeats 16000000 in
theorem val49 (p : Pl) (t : Bool) (w : World) (hp : PlanAt w p) (ht : planB p = t) : Calls Tryz.prog 49 #[planV p] w fun r w' => r = .returned (.bool t) ∧ Grew w w' := by
 have HP := Lib.hid hp
 clear hp
 obtain ⟨nm, zb, C, cn, cc, ch, D, dn, dc, ds, W, wn, wc, ws, ⟨rest, week, nf, nt, mn⟩⟩ := p
 obtain ⟨p, hpp⟩ : ∃ p : Pl, p = ⟨nm, zb, C, cn, cc, ch, D, dn, dc, ds, W, wn, wc, ws, ⟨rest, week, nf, nt, mn⟩⟩ := ⟨_, rfl⟩
 rw [← hpp] at HP
 have HPP := Lib.hid hpp
 have HCH : Hid (Spans w C cn cc ch) := by have := HP.out.ch; rw [hpp] at this; exact this
 have HDS : Hid (Dus w D dn dc ds) := by have := HP.out.ds; rw [hpp] at this; exact this
 have HWS : Hid (Wos w W wn wc ws) := by have := HP.out.ws; rw [hpp] at this; exact this
 have hdn := HDS.out.le
 have hwn := HWS.out.le
 clear HP
 have HT : Hid ((znB ⟨zb, ch⟩ && (decide (dn ≤ 24) && (decide (wn ≤ 12) && (ds.all (dOk ⟨zb, ch⟩) && (ws.all wOk && lOk ⟨rest, week, nf, nt, mn⟩))))) = t) := ht
 clear ht
 show Calls Tryz.prog 49 #[.agg #[.string nm, .int .i64 zb, .slice C cn cc, .slice D dn dc, .slice W wn wc, .int .i64 rest, .int .i64 week, .int .i64 nf, .int .i64 nt, .int .i64 mn]] w _
 clear hpp HPP p
 have gb : Grew w (w.alloc (.cells #[.string nm, .int .i64 zb, .slice C cn cc, .slice D dn dc, .slice W wn wc, .int .i64 rest, .int .i64 week, .int .i64 nf, .int .i64 nt, .int .i64 mn] 32)) := (Grew.refl w).alloc _
 have X0 := Lib.hid (World.alloc_heap_new w (.cells #[.string nm, .int .i64 zb, .slice C cn cc, .slice D dn dc, .slice W wn wc, .int .i64 rest, .int .i64 week, .int .i64 nf, .int .i64 nt, .int .i64 mn] 32))
 obtain ⟨t0, ht0⟩ : ∃ t, znB ⟨zb, ch⟩ = t := ⟨_, rfl⟩
 have T0 := Lib.hid ht0
 have HE : Hid ((t0 && (decide (dn ≤ 24) && (decide (wn ≤ 12) && (ds.all (dOk ⟨zb, ch⟩) && (ws.all wOk && lOk ⟨rest, week, nf, nt, mn⟩))))) = t) := by unfold Hid; rw [← ht0]; exact HT.out
 clear ht0 HT
 go_enter Tryz.func49, Tryz.ntmps49
 go_wp2_with fail
 refine (zvalid12 nm zb C cn cc ch _ t0 (HCH.out.grew gb) T0.out).mono ?_
 rintro r w1 ⟨rfl, g1⟩
 have G1 := gb.trans g1
 have x1 := g1.block X0.out
 cases t0 with
 | false =>
  go_wp2
  go_ret
  exact ⟨congrArg (fun b => Ending.returned (Value.bool b)) HE.out, G1⟩
 | true =>
  have v3 : w1.cell? ⟨w.heap.size, 3, none⟩ = some (.slice D dn dc) := by simp [World.cell?, x1]
  have v4 : w1.cell? ⟨w.heap.size, 4, none⟩ = some (.slice W wn wc) := by simp [World.cell?, x1]
  have XX := Lib.hid x1
  clear x1 gb
  by_cases hn1 : dn ≤ 24
  ·have q1 : ¬ ((24 : Int) < (dn : Int)) := by omega
   have q2 : ¬ (24 < dn) := by omega
   by_cases hn2 : wn ≤ 12
   ·have q3 : ¬ ((12 : Int) < (wn : Int)) := by omega
    have q4 : ¬ (12 < wn) := by omega
    have HE3 : Hid ((ds.all (dOk ⟨zb, ch⟩) && (ws.all wOk && lOk ⟨rest, week, nf, nt, mn⟩)) = t) := by have := HE.out; rw [decide_eq_true hn1, decide_eq_true hn2] at this; exact this
    have HCH2 := Lib.hid (HCH.out.grew G1)
    have HDS2 := Lib.hid (HDS.out.grew G1)
    have HWS2 := Lib.hid (HWS.out.grew G1)
    have HG := Lib.hid G1
    have HDL : Hid (ds.length = dn) := HDS.out.len
    have HWL : Hid (ws.length = wn) := HWS.out.len
    clear HCH HDS HWS G1 g1 HE
    go_wp2_with fail
    clear v3 v4
    go_loopw [31] (fun i y => ∃ k : Nat, k ≤ dn ∧ i = .int .i64 k ∧ Hid (((ds.drop k).all (dOk ⟨zb, ch⟩) && (ws.all wOk && lOk ⟨rest, week, nf, nt, mn⟩)) = t) ∧ Hid (Grew w1 y)) (fun i _ => dn - (intOf i).toNat)
    case atStart => exact ⟨0, Nat.zero_le _, rfl, HE3.out, Grew.refl _⟩
    case round =>
     obtain ⟨k, hk, rfl, HK, HR⟩ := hrel
     have x1 := HR.out.block XX.out
     have v0 : wr.cell? ⟨w.heap.size, 0, none⟩ = some (.string nm) := by simp [World.cell?, x1]
     have v1 : wr.cell? ⟨w.heap.size, 1, none⟩ = some (.int .i64 zb) := by simp [World.cell?, x1]
     have v2 : wr.cell? ⟨w.heap.size, 2, none⟩ = some (.slice C cn cc) := by simp [World.cell?, x1]
     have v4 : wr.cell? ⟨w.heap.size, 4, none⟩ = some (.slice W wn wc) := by simp [World.cell?, x1]
     have X3 := Lib.hid x1
     clear x1
     by_cases hlt : k < dn
     ·obtain ⟨b, o, x, hA, hx, ⟨c0, c1, c2⟩, _⟩ := (HDS2.out.grew HR.out).at_ hlt
      subst hA
      have HK2 : Hid ((dOk ⟨zb, ch⟩ x && ((ds.drop (k + 1)).all (dOk ⟨zb, ch⟩) && (ws.all wOk && lOk ⟨rest, week, nf, nt, mn⟩))) = t) := by
       have := HK.out
       rw [List.drop_eq_getElem_cons (by rw [HDL.out]; exact hlt), (List.getElem?_eq_some_iff.1 hx).2, List.all_cons, Bool.and_assoc] at this
       exact this
      clear HK hx
      obtain ⟨xa, xb, xs⟩ := x
      simp only at c0 c1 c2
      have e1 : (0 : Int) ≤ (k : Int) := by omega
      have e2 : (k : Int) < (dn : Int) := by omega
      have gx := (Grew.refl wr).alloc (.cells #[.int .i64 xa, .int .i64 xb, .int .i64 xs] 47)
      have HSx := Lib.hid ((HCH2.out.grew HR.out).grew gx)
      have HRx := Lib.hid (HR.out.trans gx)
      replace v0 := gx.cell v0
      replace v1 := gx.cell v1
      replace v2 := gx.cell v2
      have HFB : ∀ r w', RetMin ⟨zb, ch⟩ ⟨xa, xb, xs⟩ (wr.alloc (.cells #[.int .i64 xa, .int .i64 xb, .int .i64 xs] 47)) r w' → ∃ A5 m5 k5 er, r = .returned (.tuple #[.slice A5 m5 k5, .int .i64 er]) ∧ dOk ⟨zb, ch⟩ ⟨xa, xb, xs⟩ = decide (er = 0) ∧ Grew (wr.alloc (.cells #[.int .i64 xa, .int .i64 xb, .int .i64 xs] 47)) w' := by
       intro r w' h
       rcases h with ⟨h1, ⟨h2, A5, m5, k5, h3, _, h4⟩ | ⟨h2, h3, h4⟩⟩ | ⟨h1, h2, h3⟩
       ·exact ⟨A5, m5, k5, 0, h3, by unfold dOk; rw [h1]; exact h2, h4⟩
       ·exact ⟨none, 0, 0, 21, h3, by unfold dOk; rw [h1]; exact h2, h4⟩
       ·exact ⟨none, 0, 0, 171, h2, by unfold dOk; rw [h1]; rfl, h3⟩
      go_wp2_with fail
      refine (min14 nm zb C cn cc ch ⟨xa, xb, xs⟩ _ HSx.out T0.out).mono ?_
      intro r w4 hr
      obtain ⟨A5, m5, k5, er, rfl, hd5, g4⟩ := HFB r w4 hr
      clear hr HFB v0 v1 v2 c0 c1 c2 gx
      have HG4 := Lib.hid (HRx.out.trans g4)
      clear HRx g4
      by_cases h0 : er = 0
      ·have q1 : (er == 0) = true := by simpa using h0
       have HK3 : Hid (((ds.drop (k + 1)).all (dOk ⟨zb, ch⟩) && (ws.all wOk && lOk ⟨rest, week, nf, nt, mn⟩)) = t) := by
        have := HK2.out
        rw [hd5, decide_eq_true h0] at this
        exact this
       clear hd5 h0
       go_wp2_with fail
       go_roundw
       case rel => exact ⟨k + 1, by omega, by go_num, HK3, HG4⟩
       case measure => simp [intOf]; omega
      ·have q1 : (er == 0) = false := by simpa using h0
       have HF : Hid (false = t) := by
        have := HK2.out
        rw [hd5, decide_eq_false h0] at this
        exact this
       clear hd5 h0
       go_wp2
       go_ret
       exact ⟨congrArg (fun b => Ending.returned (Value.bool b)) HF.out, HG.out.trans HG4.out⟩
     ·obtain rfl : dn = k := by omega
      have HK2 : Hid ((ws.all wOk && lOk ⟨rest, week, nf, nt, mn⟩) = t) := by
       have := HK.out
       rw [← HDL.out, List.drop_length] at this
       exact this
      have HWR := Lib.hid (HWS2.out.grew HR.out)
      have HGr := Lib.hid (HG.out.trans HR.out)
      clear v0 v1 v2 HK HDS2 HWS2 HG XX HR hn1 hn2 q1 q2 q3 q4
      go_wp2_with fail
      go_loopw [48] (fun i y => ∃ k : Nat, k ≤ wn ∧ i = .int .i64 k ∧ Hid (((ws.drop k).all wOk && lOk ⟨rest, week, nf, nt, mn⟩) = t) ∧ Hid (Grew wr y)) (fun i _ => wn - (intOf i).toNat)
      case atStart => exact ⟨0, Nat.zero_le _, rfl, HK2.out, Grew.refl _⟩
      case round =>
       clear HK2
       obtain ⟨k, hk, rfl, HK, HR⟩ := hrel
       have X5 := Lib.hid (HR.out.block X3.out)
       by_cases hlt : k < wn
       ·obtain ⟨b, o, x, hA, hx, ⟨c0, c1, c2, c3, c4⟩, hsp, _⟩ := (HWR.out.grew HR.out).at_ hlt
        subst hA
        have HK2 : Hid ((wOk x && ((ws.drop (k + 1)).all wOk && lOk ⟨rest, week, nf, nt, mn⟩)) = t) := by
         have := HK.out
         rw [List.drop_eq_getElem_cons (by rw [HWL.out]; exact hlt), (List.getElem?_eq_some_iff.1 hx).2, List.all_cons, Bool.and_assoc] at this
         exact this
        have HSP := Lib.hid hsp
        clear HK hx hsp
        obtain ⟨nm', sk, mi, wg, A, n, c, aw⟩ := x
        simp only at c0 c1 c2 c3 c4
        have HSP' : Hid (Spans wr A n c aw) := HSP
        obtain ⟨TT, hTT⟩ : ∃ T, ((ws.drop (k + 1)).all wOk && lOk ⟨rest, week, nf, nt, mn⟩) = T := ⟨_, rfl⟩
        have HTT := Lib.hid hTT
        rw [hTT] at HK2
        clear hTT
        have hnl : aw.length = n := HSP'.out.1
        have HNL := Lib.hid hnl
        have hn9 : n ≤ 9223372036854775807 := HSP'.out.le
        clear hnl HSP
        have e1 : (0 : Int) ≤ (k : Int) := by omega
        have e2 : (k : Int) < (wn : Int) := by omega
        obtain ⟨s0, hs0⟩ : ∃ t, decide (0 ≤ sk ∧ sk ≤ 65535) = t := ⟨_, rfl⟩
        obtain ⟨s1, hs1⟩ : ∃ t, decide (0 ≤ wg ∧ wg ≤ 1000000) = t := ⟨_, rfl⟩
        obtain ⟨s3, hs3⟩ : ∃ t, decide (nrm aw = aw) = t := ⟨_, rfl⟩
        have HE : Hid ((s0 && (s1 && (decide (n ≤ 400) && (s3 && (awOk aw && TT))))) = t) := by
         unfold Hid; rw [← HK2.out, ← hs0, ← hs1, ← hs3]; unfold wOk; simp only [Bool.and_assoc]
        have S0 := Lib.hid hs0
        have S1 := Lib.hid hs1
        have S3 := Lib.hid hs3
        clear hs0 hs1 hs3 HK2
        obtain ⟨wv, hwv⟩ : ∃ y, y = wr.alloc (.cells #[.string nm', .int .i64 sk, .bool mi, .int .i64 wg, .slice A n c] 56) := ⟨_, rfl⟩
        obtain ⟨bv, hbv⟩ : ∃ z, z = wr.heap.size := ⟨_, rfl⟩
        have gv : Grew wr wv := by rw [hwv]; exact (Grew.refl wr).alloc _
        have XV : Hid (wv.heap[bv]? = some (.cells #[.string nm', .int .i64 sk, .bool mi, .int .i64 wg, .slice A n c] 56)) := by unfold Hid; rw [hwv, hbv]; exact World.alloc_heap_new wr _
        go_upto_region 13 with (fail)
        rw [← hwv, ← hbv]
        have HGv := Lib.hid (HR.out.trans gv)
        have HSv := Lib.hid (HSP'.out.grew gv)
        clear hwv hbv c0 c1 c2 c3 c4 gv HR HSP'
        have x1 := XV.out
        have v1 : wv.cell? ⟨bv, 1, none⟩ = some (.int .i64 sk) := by simp [World.cell?, x1]
        clear x1
        go_wp2_with fail
        refine (within101 sk 65535 s0 _ S0.out).mono ?_
        rintro r w4 ⟨rfl, g4⟩
        clear v1
        cases s0 with
        | false =>
         go_wp2
         go_ret
         exact ⟨congrArg (fun b => Ending.returned (Value.bool b)) HE.out, HGr.out.trans (HGv.out.trans g4)⟩
        | true =>
         have XV4 := Lib.hid (g4.block XV.out)
         have x1 := XV4.out
         have v3 : w4.cell? ⟨bv, 3, none⟩ = some (.int .i64 wg) := by simp [World.cell?, x1]
         clear x1
         go_wp2_with fail
         refine (within101 wg 1000000 s1 _ S1.out).mono ?_
         rintro r w5 ⟨rfl, g5⟩
         clear v3
         cases s1 with
         | false =>
          go_wp2
          go_ret
          exact ⟨congrArg (fun b => Ending.returned (Value.bool b)) HE.out, HGr.out.trans (HGv.out.trans (g4.trans g5))⟩
         | true =>
          have XV5 := Lib.hid (g5.block XV4.out)
          have x1 := XV5.out
          have v4 : w5.cell? ⟨bv, 4, none⟩ = some (.slice A n c) := by simp [World.cell?, x1]
          clear x1
          by_cases hn4 : n ≤ 400
          ·have q5 : ¬ ((400 : Int) < (n : Int)) := by omega
           have q6 : ¬ (400 < n) := by omega
           have HE2 : Hid ((s3 && (awOk aw && TT)) = t) := by unfold Hid; rw [← HE.out, decide_eq_true hn4]; rfl
           have g45 := g4.trans g5
           have HS5 := Lib.hid (HSv.out.grew g45)
           have HG5 := Lib.hid (HGv.out.trans g45)
           clear HE g4 g5 g45 HSv HGv XV XV4
           go_wp2_with fail
           refine (valid_val HS5.out (by omega) S3.out).mono ?_
           rintro r w6 ⟨rfl, g6⟩
           clear v4 q5 q6
           cases s3 with
           | false =>
            go_wp2
            go_ret
            exact ⟨congrArg (fun b => Ending.returned (Value.bool b)) HE2.out, HGr.out.trans (HG5.out.trans g6)⟩
           | true =>
            have XV6 := Lib.hid (g6.block XV5.out)
            have x1 := XV6.out
            have v4 : w6.cell? ⟨bv, 4, none⟩ = some (.slice A n c) := by simp [World.cell?, x1]
            have HS6 := Lib.hid (HS5.out.grew g6)
            have HG6 := Lib.hid (HG5.out.trans g6)
            clear x1 g6 XV5 HS5 HG5
            go_wp2_with fail
            clear v4
            go_loopw [75] (fun i y => ∃ m : Nat, m ≤ n ∧ i = .int .i64 m ∧ Hid ((awOk (aw.drop m) && TT) = t) ∧ Hid (Grew w6 y)) (fun i _ => n - (intOf i).toNat)
            case atStart => exact ⟨0, Nat.zero_le _, rfl, HE2.out, Grew.refl _⟩
            case round =>
             obtain ⟨m, hm, rfl, HK, HR⟩ := hrel
             by_cases hlm : m < n
             ·obtain ⟨b', o', s, hA, hsk, r1, r2, l1, l2⟩ := (HS6.out.grew HR.out).at_ hlm
              subst hA
              have HK2 : Hid ((decide (0 ≤ s.1 ∧ s.2 ≤ 52596000) && (awOk (aw.drop (m + 1)) && TT)) = t) := by
               have := HK.out
               rw [List.drop_eq_getElem_cons (by rw [HNL.out]; exact hlm), (List.getElem?_eq_some_iff.1 hsk).2] at this
               unfold awOk at this
               rw [List.all_cons, Bool.and_assoc] at this
               exact this
              obtain ⟨y1, y2⟩ := s
              simp only at r1 r2 l1 l2
              have HKx : Hid ((decide (0 ≤ y1 ∧ y2 ≤ 52596000) && (awOk (aw.drop (m + 1)) && TT)) = t) := HK2
              have e1 : (0 : Int) ≤ (m : Int) := by omega
              have e2 : (m : Int) < (n : Int) := by omega
              clear HK hsk HK2
              have gz := (Grew.refl wr).alloc (.cells #[.int .i64 y1, .int .i64 y2] 28)
              have HGz := Lib.hid (HR.out.trans gz)
              clear gz
              by_cases h0 : y1 < 0
              ·have q0 : decide (y1 < 0) = true := decide_eq_true h0
               have HF : Hid (false = t) := by unfold Hid; rw [← HKx.out, decide_eq_false (by omega)]; rfl
               go_wp2
               go_ret
               exact ⟨congrArg (fun b => Ending.returned (Value.bool b)) HF.out, HGr.out.trans (HG6.out.trans HGz.out)⟩
              ·have q0 : decide (y1 < 0) = false := decide_eq_false h0
               by_cases h1 : 52596000 < y2
               ·have q1 : decide (52596000 < y2) = true := decide_eq_true h1
                have HF : Hid (false = t) := by unfold Hid; rw [← HKx.out, decide_eq_false (by omega)]; rfl
                go_wp2
                go_ret
                exact ⟨congrArg (fun b => Ending.returned (Value.bool b)) HF.out, HGr.out.trans (HG6.out.trans HGz.out)⟩
               ·have q1 : decide (52596000 < y2) = false := decide_eq_false h1
                have HF : Hid ((awOk (aw.drop (m + 1)) && TT) = t) := by unfold Hid; rw [← HKx.out, decide_eq_true (by omega)]; rfl
                clear HKx
                go_wp2_with fail
                go_roundw
                case rel => exact ⟨m + 1, by omega, by go_num, HF, HGz⟩
                case measure => simp [intOf]; omega
             ·obtain rfl : n = m := by omega
              have HF : Hid (TT = t) := by unfold Hid; rw [← HK.out, ← HNL.out, List.drop_length]; rfl
              have HGo := Lib.hid (HG6.out.trans HR.out)
              have HKo : Hid (((ws.drop (k + 1)).all wOk && lOk ⟨rest, week, nf, nt, mn⟩) = t) := HTT.out.trans HF.out
              clear HK HR HF
              go_wp2_with fail
              go_roundw
              case rel => exact ⟨k + 1, by omega, by go_num, HKo, HGo⟩
              case measure => simp [intOf]; omega
          ·have q5 : (400 : Int) < (n : Int) := by omega
           have q6 : 400 < n := by omega
           have HE2 : Hid (false = t) := by unfold Hid; rw [← HE.out, decide_eq_false hn4]; rfl
           go_wp2
           go_ret
           exact ⟨congrArg (fun b => Ending.returned (Value.bool b)) HE2.out, HGr.out.trans (HGv.out.trans (g4.trans g5))⟩
       ·obtain rfl : wn = k := by omega
        have HE9 : Hid (lOk ⟨rest, week, nf, nt, mn⟩ = t) := by
         have := HK.out
         rw [← HWL.out, List.drop_length] at this
         exact this
        obtain ⟨t5, ht5⟩ : ∃ t, decide (0 ≤ rest ∧ rest ≤ 10080) = t := ⟨_, rfl⟩
        obtain ⟨t6, ht6⟩ : ∃ t, decide (0 ≤ week ∧ week ≤ 20000) = t := ⟨_, rfl⟩
        obtain ⟨t7, ht7⟩ : ∃ t, decide (0 ≤ mn ∧ mn ≤ 1500) = t := ⟨_, rfl⟩
        obtain ⟨t8, ht8⟩ : ∃ t, decide (0 ≤ nf ∧ nf ≤ 1440) = t := ⟨_, rfl⟩
        obtain ⟨t9, ht9⟩ : ∃ t, decide (0 ≤ nt ∧ nt ≤ 1440) = t := ⟨_, rfl⟩
        replace HE9 : Hid ((t5 && (t6 && (t7 && (t8 && t9)))) = t) := by unfold Hid; rw [← HE9.out, ← ht5, ← ht6, ← ht7, ← ht8, ← ht9]; rfl
        have T5 := Lib.hid ht5
        have T6 := Lib.hid ht6
        have T7 := Lib.hid ht7
        have T8 := Lib.hid ht8
        have T9 := Lib.hid ht9
        clear ht5 ht6 ht7 ht8 ht9 HK
        have x1 := X5.out
        have v5 : wr.cell? ⟨w.heap.size, 5, none⟩ = some (.int .i64 rest) := by simp [World.cell?, x1]
        have v6 : wr.cell? ⟨w.heap.size, 6, none⟩ = some (.int .i64 week) := by simp [World.cell?, x1]
        have v7 : wr.cell? ⟨w.heap.size, 7, none⟩ = some (.int .i64 nf) := by simp [World.cell?, x1]
        have v8 : wr.cell? ⟨w.heap.size, 8, none⟩ = some (.int .i64 nt) := by simp [World.cell?, x1]
        have v9 : wr.cell? ⟨w.heap.size, 9, none⟩ = some (.int .i64 mn) := by simp [World.cell?, x1]
        clear x1
        obtain ⟨wl, hwl⟩ : ∃ y, y = wr.alloc (.cells #[.int .i64 rest, .int .i64 week, .int .i64 nf, .int .i64 nt, .int .i64 mn] 30) := ⟨_, rfl⟩
        obtain ⟨bl, hbl⟩ : ∃ z, z = wr.heap.size := ⟨_, rfl⟩
        have gl : Grew wr wl := by rw [hwl]; exact (Grew.refl wr).alloc _
        have XL : Hid (wl.heap[bl]? = some (.cells #[.int .i64 rest, .int .i64 week, .int .i64 nf, .int .i64 nt, .int .i64 mn] 30)) := by unfold Hid; rw [hwl, hbl]; exact World.alloc_heap_new wr _
        go_upto_region 25 with (fail)
        rw [← hwl, ← hbl]
        have GL := HGr.out.trans (HR.out.trans gl)
        clear hwl hbl v5 v6 v7 v8 v9 gl HR
        have x1 := XL.out
        have u0 : wl.cell? ⟨bl, 0, none⟩ = some (.int .i64 rest) := by simp [World.cell?, x1]
        clear x1
        go_wp2_with fail
        refine (within101 rest 10080 t5 _ T5.out).mono ?_
        rintro r wq0 ⟨rfl, gq0⟩
        have GQ0 := GL.trans gq0
        have XQ0 := Lib.hid (gq0.block XL.out)
        clear u0
        cases t5 with
        | false =>
         go_wp2
         go_ret
         exact ⟨congrArg (fun b => Ending.returned (Value.bool b)) HE9.out, GQ0⟩
        | true =>
         have x1 := XQ0.out
         have u1 : wq0.cell? ⟨bl, 1, none⟩ = some (.int .i64 week) := by simp [World.cell?, x1]
         clear x1
         go_wp2_with fail
         refine (within101 week 20000 t6 _ T6.out).mono ?_
         rintro r wq1 ⟨rfl, gq1⟩
         have GQ1 := GQ0.trans gq1
         have XQ1 := Lib.hid (gq1.block XQ0.out)
         clear u1
         cases t6 with
         | false =>
          go_wp2
          go_ret
          exact ⟨congrArg (fun b => Ending.returned (Value.bool b)) HE9.out, GQ1⟩
         | true =>
          have x1 := XQ1.out
          have u4 : wq1.cell? ⟨bl, 4, none⟩ = some (.int .i64 mn) := by simp [World.cell?, x1]
          clear x1
          go_wp2_with fail
          refine (within101 mn 1500 t7 _ T7.out).mono ?_
          rintro r wq2 ⟨rfl, gq2⟩
          have GQ2 := GQ1.trans gq2
          have XQ2 := Lib.hid (gq2.block XQ1.out)
          clear u4
          cases t7 with
          | false =>
           go_wp2
           go_ret
           exact ⟨congrArg (fun b => Ending.returned (Value.bool b)) HE9.out, GQ2⟩
          | true =>
           have x1 := XQ2.out
           have u2 : wq2.cell? ⟨bl, 2, none⟩ = some (.int .i64 nf) := by simp [World.cell?, x1]
           clear x1
           go_wp2_with fail
           refine (within101 nf 1440 t8 _ T8.out).mono ?_
           rintro r wq3 ⟨rfl, gq3⟩
           have GQ3 := GQ2.trans gq3
           have XQ3 := Lib.hid (gq3.block XQ2.out)
           clear u2
           cases t8 with
           | false =>
            go_wp2
            go_ret
            exact ⟨congrArg (fun b => Ending.returned (Value.bool b)) HE9.out, GQ3⟩
           | true =>
            have x1 := XQ3.out
            have u3 : wq3.cell? ⟨bl, 3, none⟩ = some (.int .i64 nt) := by simp [World.cell?, x1]
            clear x1
            go_wp2_with fail
            refine (within101 nt 1440 t9 _ T9.out).mono ?_
            rintro r wq4 ⟨rfl, gq4⟩
            have GQ4 := GQ3.trans gq4
            have XQ4 := Lib.hid (gq4.block XQ3.out)
            clear u3
            go_wp2
            go_ret
            exact ⟨congrArg (fun b => Ending.returned (Value.bool b)) HE9.out, GQ4⟩
   ·have q3 : ((12 : Int) < (wn : Int)) := by omega
    have q4 : (12 < wn) := by omega
    have HE2 : Hid (false = t) := by unfold Hid; rw [← HE.out, decide_eq_true hn1, decide_eq_false hn2]; rfl
    go_wp2
    go_ret
    exact ⟨congrArg (fun b => Ending.returned (Value.bool b)) HE2.out, G1⟩
  ·have q1 : ((24 : Int) < (dn : Int)) := by omega
   have q2 : (24 < dn) := by omega
   have HE2 : Hid (false = t) := by unfold Hid; rw [← HE.out, decide_eq_false hn1]; rfl
   go_wp2
   go_ret
   exact ⟨congrArg (fun b => Ending.returned (Value.bool b)) HE2.out, G1⟩
def rosB (p : Pl) (zs : List Int) : Bool := decide (zs.length = p.dn) && zs.all fun x => decide (-1 ≤ x ∧ x < p.wn)
set_option maxRecDepth 100000 in
set_option maxHeartbeats 8000000 in
theorem isros42 (p : Pl) (A : Option Addr) (n c : Nat) (zs : List Int) (t : Bool) (w : World) (hp : PlanAt w p) (hi : Ints w A n c zs) (ht : rosB p zs = t) : Calls Tryz.prog 42 #[planV p, .slice A n c] w fun r w' => r = .returned (.bool t) ∧ Grew w w' := by
 have HP := Lib.hid hp
 clear hp
 obtain ⟨nm, zb, C, cn, cc, ch, D, dn, dc, ds, W, wn, wc, ws, ⟨rest, week, nf, nt, mn⟩⟩ := p
 obtain ⟨p, hpp⟩ : ∃ p : Pl, p = ⟨nm, zb, C, cn, cc, ch, D, dn, dc, ds, W, wn, wc, ws, ⟨rest, week, nf, nt, mn⟩⟩ := ⟨_, rfl⟩
 rw [← hpp] at HP
 have HPP := Lib.hid hpp
 have HCH : Hid (Spans w C cn cc ch) := by have := HP.out.ch; rw [hpp] at this; exact this
 have HDS : Hid (Dus w D dn dc ds) := by have := HP.out.ds; rw [hpp] at this; exact this
 have HWS : Hid (Wos w W wn wc ws) := by have := HP.out.ws; rw [hpp] at this; exact this
 have hdn := HDS.out.le
 have hwn := HWS.out.le
 clear HP
 have HT : Hid ((decide (zs.length = dn) && zs.all fun x => decide (-1 ≤ x ∧ x < wn)) = t) := ht
 clear ht
 have HI := Lib.hid hi
 have hnl : zs.length = n := hi.1
 have HNL := Lib.hid hnl
 have hn9 : n ≤ 9223372036854775807 := Nat.le_trans hi.2.1 hi.2.2.1
 clear hi hnl
 show Calls Tryz.prog 42 #[.agg #[.string nm, .int .i64 zb, .slice C cn cc, .slice D dn dc, .slice W wn wc, .int .i64 rest, .int .i64 week, .int .i64 nf, .int .i64 nt, .int .i64 mn], .slice A n c] w _
 clear hpp HPP p
 obtain ⟨w1, hw1⟩ : ∃ y, y = w.alloc (.cells #[.string nm, .int .i64 zb, .slice C cn cc, .slice D dn dc, .slice W wn wc, .int .i64 rest, .int .i64 week, .int .i64 nf, .int .i64 nt, .int .i64 mn] 32) := ⟨_, rfl⟩
 have gb : Grew w w1 := by rw [hw1]; exact (Grew.refl w).alloc _
 have x1 : w1.heap[w.heap.size]? = some (.cells #[.string nm, .int .i64 zb, .slice C cn cc, .slice D dn dc, .slice W wn wc, .int .i64 rest, .int .i64 week, .int .i64 nf, .int .i64 nt, .int .i64 mn] 32) := by rw [hw1]; exact World.alloc_heap_new w _
 have v3 : w1.cell? ⟨w.heap.size, 3, none⟩ = some (.slice D dn dc) := by simp [World.cell?, x1]
 have v4 : w1.cell? ⟨w.heap.size, 4, none⟩ = some (.slice W wn wc) := by simp [World.cell?, x1]
 have HI1 := Lib.hid (HI.out.grew gb)
 clear x1 HI
 go_enter Tryz.func42, Tryz.ntmps42
 go_upto_region 1 with (fail)
 rw [← hw1]
 clear hw1
 by_cases hl : n = dn
 ·have q1 : (n == dn) = true := by simpa using hl
  have q2 : ((n : Int) == (dn : Int)) = true := by simp; omega
  have HE : Hid ((zs.all fun x => decide (-1 ≤ x ∧ x < wn)) = t) := by have := HT.out; rw [HNL.out, decide_eq_true hl] at this; exact this
  clear hl HT
  go_wp2_with fail
  go_loopw [15] (fun i y => ∃ k : Nat, k ≤ n ∧ i = .int .i64 k ∧ Hid (((zs.drop k).all fun x => decide (-1 ≤ x ∧ x < wn)) = t) ∧ y = w1) (fun i _ => n - (intOf i).toNat)
  case atStart => exact ⟨0, Nat.zero_le _, rfl, HE.out, rfl⟩
  case round =>
   obtain ⟨k, hk, rfl, HK, hy⟩ := hrel
   obtain rfl : w1 = wr := hy.symm
   clear hy
   by_cases hlt : k < n
   ·obtain ⟨b, o, hA, hc⟩ := HI1.out.at_ (by omega)
    obtain ⟨x, hx⟩ : ∃ x, zs[k]? = some x := ⟨_, List.getElem?_eq_getElem (by rw [HNL.out]; exact hlt)⟩
    have c0 := hc k x hx
    have HK2 : Hid ((decide (-1 ≤ x ∧ x < wn) && (zs.drop (k + 1)).all fun x => decide (-1 ≤ x ∧ x < wn)) = t) := by
     have := HK.out
     rw [List.drop_eq_getElem_cons (by rw [HNL.out]; exact hlt), (List.getElem?_eq_some_iff.1 hx).2, List.all_cons] at this
     exact this
    subst hA
    clear hc hx HK
    have e1 : (0 : Int) ≤ (k : Int) := by omega
    have e2 : (k : Int) < (n : Int) := by omega
    by_cases h0 : x < -1
    ·have q0 : decide (x < -1) = true := decide_eq_true h0
     have HF : Hid (false = t) := by unfold Hid; rw [← HK2.out, decide_eq_false (by omega)]; rfl
     go_wp2
     go_ret
     exact ⟨congrArg (fun b => Ending.returned (Value.bool b)) HF.out, gb⟩
    ·have q0 : decide (x < -1) = false := decide_eq_false h0
     by_cases h1 : (wn : Int) ≤ x
     ·have q3 : decide ((wn : Int) ≤ x) = true := decide_eq_true h1
      have HF : Hid (false = t) := by unfold Hid; rw [← HK2.out, decide_eq_false (by omega)]; rfl
      go_wp2
      go_ret
      exact ⟨congrArg (fun b => Ending.returned (Value.bool b)) HF.out, gb⟩
     ·have q3 : decide ((wn : Int) ≤ x) = false := decide_eq_false h1
      have HF : Hid (((zs.drop (k + 1)).all fun x => decide (-1 ≤ x ∧ x < wn)) = t) := by unfold Hid; rw [← HK2.out, decide_eq_true (by omega)]; rfl
      clear HK2
      go_wp2_with fail
      go_roundw
      case rel => exact ⟨k + 1, by omega, by go_num, HF, trivial⟩
      case measure => simp [intOf]; omega
   ·obtain rfl : n = k := by omega
    have HF : Hid (true = t) := by unfold Hid; rw [← HK.out, ← HNL.out, List.drop_length]; rfl
    go_wp2
    go_ret
    exact ⟨congrArg (fun b => Ending.returned (Value.bool b)) HF.out, gb⟩
 ·have q1 : (n == dn) = false := by simpa using hl
  have q2 : ((n : Int) == (dn : Int)) = false := by simp; omega
  have HE : Hid (false = t) := by have := HT.out; rw [HNL.out, decide_eq_false hl] at this; exact this
  clear hl HT
  go_wp2
  go_ret
  exact ⟨congrArg (fun b => Ending.returned (Value.bool b)) HE.out, gb⟩
end Go.Proofs.YtnnbibmmofnkdaaGreat
